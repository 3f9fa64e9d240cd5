/- Walks, printed by program: each theorem says what a function of the translation returns. -/
import Derived.Test.YtgnphpimkfcmlaaDoorWref11c
namespace Go.Proofs.YtgnphpimkfcmlaaDoor
open Go Go.Lx Go.RowKit
set_option maxRecDepth 100000
set_option linter.unusedVariables false
set_option linter.unusedSimpArgs false
set_option linter.unnecessarySimpa false
theorem rnormal_ok (w : World) (vl : Value) (l : List Perm) (hl : Rd encP 3 (Lt w.heap.size) w vl l) (nl : l.length ≤ 1000000) (ol : ∀ p ∈ l, (Perm.ok) p) : Ok Tryd.prog 28 #[vl] w fun v w' => Rd encP 3 (Lt w'.heap.size) w' v (normS l) ∧ Ext False w w' := by
  obtain ⟨al, cl, rfl, hl⟩ := hl; have ml := hl.len
  refine Ok_of_W 39 Tryd.func28 rfl rfl rfl ?_
  have hX : Ext False w w := Bel.refl _ _
  refine W_seq ?_
  refine W_region ?_
  refine Rg_run rfl o_assignc ?_
  refine Rg_nil ?_
  refine W_seq ?_
  refine W_region ?_
  refine Rg_run rfl o_assignc ?_
  refine Rg_nil ?_
  refine W_seq ?_
  refine W_seq ?_
  refine W_region ?_
  refine Rg_run rfl (o_moveh (v := .slice _ _ _) rfl) ?_
  refine Rg_run rfl (o_llen Tryd.underlying47 rfl) ?_
  refine Rg_run rfl o_movec ?_
  refine Rg_nil ?_
  refine W_block ?_
  refine W_for (α := Nat × Value) [(3, 3), (5, 6), (8, 8), (11, 37)] (fun q => [(11, .int .i64 (q.1 : Int)), (3, q.2)]) (fun q w' => (q.1 ≤ l.length) ∧ Ext False w w' ∧ (Rd encP 3 (Lt w'.heap.size) w' q.2 (normAt l q.1))) (fun q => l.length - q.1) (0, .slice none 0 0) ⟨rfl, rfl, trivial⟩ ⟨Nat.zero_le _, Bel.refl _ _, Rd.none⟩ ?_
  rintro ⟨k, u⟩ fb3 w2 ⟨hk, hXL1, hrd⟩
  dsimp only at *
  replace hX := Bel.ex hX hXL1
  replace hl := hl.ext hXL1
  refine W_seq ?_
  refine W_region ?_
  refine Rg_run rfl (o_lss rfl rfl) ?_
  refine Rg_nil ?_
  refine W_seq ?_
  refine W_cond rfl (fun hc1 => ?_) (fun hc1 => ?_)
  · skip
    replace hc1 := of_decide_eq_true hc1
    refine W_skip ?_
    refine W_seq ?_
    refine W_block ?_
    refine W_seq ?_
    refine W_region ?_
    refine Rg_run rfl (o_iaR Tryd.underlying47 Tryd.sizeOf28 hl rfl rfl (by first | omega | (unfold I64; omega) | (simp; done) | (simp; omega) | (simp at *; omega))) ?_
    refine Rg_run rfl (o_ldRS Tryd.isAgg28 Tryd.sizeOf28 hl rfl (getE pz (by omega))) ?_
    refine Rg_alst rfl rfl Tryd.zeroValue28 rfl Tryd.sizeOf28 (fun _ => rfl) rfl rfl ?_
    intro b5 w4 x5 hge5 hb5
    change Box _ _ _ (encP _) at hb5
    replace hX := Bel.ex hX x5
    replace hXL1 := Bel.ex hXL1 x5
    replace hl := hl.ext x5
    replace hrd := hrd.ext x5
    refine Rg_nil ?_
    refine W_seq ?_
    refine W_region ?_
    refine Rg_run rfl (o_loadS Tryd.isAgg28 Tryd.sizeOf28 rfl hb5.at rfl) ?_
    refine Rg_enter rfl (o_call1 Tryd.call16 rfl) (Ok.mono (rcheck_ok _ _ (ol _ (getD_mem (by omega)))) ?_)
    rintro _ w6 ⟨rfl, x7⟩
    replace hX := Bel.ex hX x7
    replace hXL1 := Bel.ex hXL1 x7
    replace hl := hl.ext x7
    replace hrd := hrd.ext x7
    replace hb5 := hb5.ext x7
    refine Rg_run rfl (o_eql rfl rfl) ?_
    refine Rg_run rfl (o_assignh (v := .bool _) rfl) ?_
    refine Rg_nil ?_
    refine W_seq ?_
    refine W_seq ?_
    refine W_region ?_
    refine Rg_run rfl (o_moveh (v := .slice _ _ _) rfl) ?_
    refine Rg_run rfl (o_llen Tryd.underlying47 rfl) ?_
    refine Rg_run rfl o_movec ?_
    refine Rg_nil ?_
    refine W_block ?_
    refine W_for (α := Nat) [(6, 6), (8, 8), (20, 32)] (fun j => [(20, .int .i64 (j : Int)), (6, .bool (keepAt l (l.getD k pz) j))]) (fun j w' => (j ≤ l.length) ∧ Ext False w6 w') (fun j => l.length - j) 0 ⟨rfl, (congrArg Value.bool (keepAt_0 _ _).symm), trivial⟩ ⟨Nat.zero_le _, Bel.refl _ _⟩ ?_
    rintro j fb10 w9 ⟨hj, hXL8⟩
    replace hX := Bel.ex hX hXL8
    replace hXL1 := Bel.ex hXL1 hXL8
    replace hl := hl.ext hXL8
    replace hrd := hrd.ext hXL8
    replace hb5 := hb5.ext hXL8
    refine W_seq ?_
    refine W_region ?_
    refine Rg_run rfl (o_lss rfl rfl) ?_
    refine Rg_nil ?_
    refine W_seq ?_
    refine W_cond rfl (fun hc2 => ?_) (fun hc2 => ?_)
    · skip
      replace hc2 := of_decide_eq_true hc2
      refine W_skip ?_
      refine W_seq ?_
      refine W_block ?_
      refine W_seq ?_
      refine W_region ?_
      refine Rg_run rfl (o_iaR Tryd.underlying47 Tryd.sizeOf28 hl rfl rfl (by first | omega | (unfold I64; omega) | (simp; done) | (simp; omega) | (simp at *; omega))) ?_
      refine Rg_run rfl (o_ldRS Tryd.isAgg28 Tryd.sizeOf28 hl rfl (getE pz (by omega))) ?_
      refine Rg_alst rfl rfl Tryd.zeroValue28 rfl Tryd.sizeOf28 (fun _ => rfl) rfl rfl ?_
      intro b8 w11 x12 hge8 hb8
      change Box _ _ _ (encP _) at hb8
      replace hX := Bel.ex hX x12
      replace hXL1 := Bel.ex hXL1 x12
      replace hXL8 := Bel.ex hXL8 x12
      replace hl := hl.ext x12
      replace hrd := hrd.ext x12
      replace hb5 := hb5.ext x12
      refine Rg_nil ?_
      refine W_seq ?_
      refine W_region ?_
      refine Rg_run rfl (o_loadS Tryd.isAgg28 Tryd.sizeOf28 rfl hb8.at rfl) ?_
      refine Rg_run rfl (o_loadS Tryd.isAgg28 Tryd.sizeOf28 rfl hb5.at rfl) ?_
      refine Rg_run rfl (o_tneq eq_rperm rfl rfl) ?_
      refine Rg_run rfl (o_moveh (v := .bool _) rfl) ?_
      refine Rg_may 3 27 rfl rfl rfl (fun hg => (o_loadS Tryd.isAgg28 Tryd.sizeOf28 rfl hb8.at rfl)) ?_
      refine Rg_may 3 27 rfl rfl rfl (fun hg => (o_loadS Tryd.isAgg28 Tryd.sizeOf28 rfl hb5.at rfl)) ?_
      refine Rg_mayCall 3 27 rfl rfl rfl (fun hg => ⟨(o_call2 Tryd.call22 (gsel (u := undef) hg) (gsel (u := undef) hg)), rimplies_ok _ _ (ol _ (getD_mem (by omega))) _ (ol _ (getD_mem (by omega)))⟩) ?_
      intro w13 x14
      replace hX := Bel.ex hX x14
      replace hXL1 := Bel.ex hXL1 x14
      replace hXL8 := Bel.ex hXL8 x14
      replace hl := hl.ext x14
      replace hrd := hrd.ext x14
      replace hb5 := hb5.ext x14
      replace hb8 := hb8.ext x14
      refine Rg_run rfl (o_and (u := undef) rfl rfl) ?_
      refine Rg_nil ?_
      refine W_cond rfl (fun hc3 => ?_) (fun hc3 => ?_)
      · skip
        refine W_region ?_
        refine Rg_run rfl o_assignc ?_
        refine Rg_nil ?_
        refine W_region ?_
        refine Rg_run rfl (o_add rfl rfl (by first | omega | (unfold I64; omega) | (simp; done) | (simp; omega) | (simp at *; omega))) ?_
        refine Rg_run rfl (o_moveh (v := .int _ _) rfl) ?_
        refine Rg_nil ?_
        refine ⟨j + 1, ⟨?_, ?_, trivial⟩, ?_, ⟨?_, hXL8⟩, ?_⟩
        · first | rfl | (go_num) | (exact congrArg _ (by omega))
        · first | exact congrArg Value.bool (keepAt_no (by omega) hc3).symm | exact congrArg Value.bool (keepAt_yes (by omega) hc3).symm
        · repeat (first | exact off_refl _ _ | exact off_mix | refine off_put rfl ?_ | refine off_putN ?_ | refine off_setL rfl ?_ | refine off_mix' rfl ?_)
        · show j + 1 ≤ l.length; omega
        · omega
      · skip
        refine W_skip ?_
        refine W_region ?_
        refine Rg_run rfl (o_add rfl rfl (by first | omega | (unfold I64; omega) | (simp; done) | (simp; omega) | (simp at *; omega))) ?_
        refine Rg_run rfl (o_moveh (v := .int _ _) rfl) ?_
        refine Rg_nil ?_
        refine ⟨j + 1, ⟨?_, ?_, trivial⟩, ?_, ⟨?_, hXL8⟩, ?_⟩
        · first | rfl | (go_num) | (exact congrArg _ (by omega))
        · first | exact congrArg Value.bool (keepAt_no (by omega) hc3).symm | exact congrArg Value.bool (keepAt_yes (by omega) hc3).symm
        · repeat (first | exact off_refl _ _ | exact off_mix | refine off_put rfl ?_ | refine off_putN ?_ | refine off_setL rfl ?_ | refine off_mix' rfl ?_)
        · show j + 1 ≤ l.length; omega
        · omega
    · skip
      replace hc2 := of_decide_eq_false hc2; rw [keepAt_end (by omega)]
      refine W_exit ?_
      refine exAt_hit ?_
      refine W_seq ?_
      refine W_region ?_
      refine Rg_run rfl (o_moveh (v := .bool _) rfl) ?_
      refine Rg_nil ?_
      refine W_cond rfl (fun hc4 => ?_) (fun hc4 => ?_)
      · skip
        refine W_region ?_
        refine Rg_run rfl (o_moveh (v := u) rfl) ?_
        refine Rg_run rfl (o_loadS Tryd.isAgg28 Tryd.sizeOf28 rfl hb5.at rfl) ?_
        refine Rg_enter rfl (o_call2 Tryd.call56 rfl rfl) (Ok.mono (rinsert_ok _ _ _ hrd.top (by have := normAt_len l k; omega) (fun p hp => ol p (normAt_mem hp)) _ (ol _ (getD_mem (by omega)))) ?_)
        rintro v36 w15 ⟨hrd36, x16⟩
        replace hX := Bel.ex hX x16
        replace hXL1 := Bel.ex hXL1 x16
        replace hl := hl.ext x16
        replace hrd := hrd.ext x16
        replace hb5 := hb5.ext x16
        refine Rg_run rfl (o_assignh (v := v36) rfl) ?_
        refine Rg_nil ?_
        refine W_region ?_
        refine Rg_run rfl (o_add rfl rfl (by first | omega | (unfold I64; omega) | (simp; done) | (simp; omega) | (simp at *; omega))) ?_
        refine Rg_run rfl (o_moveh (v := .int _ _) rfl) ?_
        refine Rg_nil ?_
        refine ⟨(k + 1, v36), ⟨?_, ?_, trivial⟩, ?_, ⟨?_, hXL1, ?_⟩, ?_⟩
        · first | rfl | (go_num) | (exact congrArg _ (by omega))
        · first | rfl | (go_num) | (exact congrArg _ (by omega))
        · repeat (first | exact off_refl _ _ | exact off_mix | refine off_put rfl ?_ | refine off_putN ?_ | refine off_setL rfl ?_ | refine off_mix' rfl ?_)
        · show k + 1 ≤ l.length; omega
        · show Rd _ _ _ _ _ (normAt l (k + 1)); rw [normAt_yes (by omega) hc4]; exact hrd36.top
        · show l.length - (k + 1) < l.length - k; omega
      · skip
        refine W_skip ?_
        refine W_region ?_
        refine Rg_run rfl (o_add rfl rfl (by first | omega | (unfold I64; omega) | (simp; done) | (simp; omega) | (simp at *; omega))) ?_
        refine Rg_run rfl (o_moveh (v := .int _ _) rfl) ?_
        refine Rg_nil ?_
        refine ⟨(k + 1, u), ⟨?_, ?_, trivial⟩, ?_, ⟨?_, hXL1, ?_⟩, ?_⟩
        · first | rfl | (go_num) | (exact congrArg _ (by omega))
        · first | rfl | (go_num) | (exact congrArg _ (by omega))
        · repeat (first | exact off_refl _ _ | exact off_mix | refine off_put rfl ?_ | refine off_putN ?_ | refine off_setL rfl ?_ | refine off_mix' rfl ?_)
        · show k + 1 ≤ l.length; omega
        · show Rd _ _ _ _ _ (normAt l (k + 1)); rw [normAt_no (by omega) hc4]; exact hrd.top
        · show l.length - (k + 1) < l.length - k; omega
  · skip
    replace hc1 := of_decide_eq_false hc1
    refine W_exit ?_
    refine exAt_hit ?_
    refine W_seq ?_
    refine W_region ?_
    refine Rg_run rfl (o_moveh (v := u) rfl) ?_
    refine Rg_run rfl (o_assignh (v := u) rfl) ?_
    refine Rg_nil ?_
    refine W_ret ?_
    refine ⟨_, res_tmp rfl rfl, ?_⟩
    rw [normAt_end (by omega)] at hrd; exact ⟨hrd.top, hX⟩

theorem rminus_ok (w : World) (vx : Value) (x : List Perm) (hx : Rd encP 3 (Lt w.heap.size) w vx x) (nx : x.length ≤ 1000000) (ox : ∀ p ∈ x, (Perm.ok) p) (vy : Value) (y : List Perm) (hy : Rd encP 3 (Lt w.heap.size) w vy y) (ny : y.length ≤ 1000000) (oy : ∀ p ∈ y, (Perm.ok) p) : Ok Tryd.prog 32 #[vx, vy] w fun v w' => Rd encP 3 (Lt w'.heap.size) w' v ((normS x).filter fun p => !(y.any fun q => impliesS q p)) ∧ Ext False w w' := by
  obtain ⟨ax, cx, rfl, hx⟩ := hx; have mx := hx.len
  obtain ⟨ay, cy, rfl, hy⟩ := hy; have my := hy.len
  have hnl := normS_len x
  refine Ok_of_W 35 Tryd.func32 rfl rfl rfl ?_
  have hX : Ext False w w := Bel.refl _ _
  refine W_seq ?_
  refine W_region ?_
  refine Rg_run rfl o_assignc ?_
  refine Rg_nil ?_
  refine W_seq ?_
  refine W_region ?_
  refine Rg_run rfl o_assignc ?_
  refine Rg_nil ?_
  refine W_seq ?_
  refine W_seq ?_
  refine W_region ?_
  refine Rg_run rfl (o_moveh (v := .slice _ _ _) rfl) ?_
  refine Rg_enter rfl (o_call1 Tryd.call28 rfl) (Ok.mono (rnormal_ok _ _ _ hx.trd (by first | assumption | omega | (simp; done) | (simp; omega) | (simp at *; omega)) (by first | assumption | omega | (simp; done) | (simp; omega) | (simp at *; omega))) ?_)
  rintro _ w1 ⟨⟨a12, c12, rfl, hs12⟩, x2⟩
  have z3 := Bel.size x2
  replace hX := Bel.ex hX x2
  replace hx := hx.ext x2
  replace hy := hy.ext x2
  refine Rg_run rfl (o_llen Tryd.underlying47 rfl) ?_
  refine Rg_run rfl o_movec ?_
  refine Rg_nil ?_
  refine W_block ?_
  refine W_for (α := Nat × Value) [(5, 5), (7, 8), (10, 10), (14, 33)] (fun q => [(14, .int .i64 (q.1 : Int)), (5, q.2)]) (fun q w' => (q.1 ≤ (normS x).length) ∧ Bel False (fun g => w1.heap.size ≤ g) w1 w' ∧ (Own encP 3 28 (fun g => w1.heap.size ≤ g) w' q.2 (((normS x).take q.1).filter fun p => !(y.any fun q => impliesS q p)))) (fun q => (normS x).length - q.1) (0, .slice none 0 0) ⟨rfl, rfl, trivial⟩ ⟨Nat.zero_le _, Bel.refl _ _, Own.nil _ _⟩ ?_
  rintro ⟨k, u⟩ fb6 w5 ⟨hk, hXL4, hown⟩
  dsimp only at *
  have z7 := Bel.size hXL4
  replace hX := Bel.out hX hXL4 (fun g h1 h2 => by first | exact h2 | omega)
  replace hx := hx.keep hXL4 (fun g h1 h2 h3 => by omega)
  replace hy := hy.keep hXL4 (fun g h1 h2 h3 => by omega)
  replace hs12 := hs12.keep hXL4 (fun g h1 h2 h3 => by omega)
  refine W_seq ?_
  refine W_region ?_
  refine Rg_run rfl (o_lss rfl rfl) ?_
  refine Rg_nil ?_
  refine W_seq ?_
  refine W_cond rfl (fun hc1 => ?_) (fun hc1 => ?_)
  · skip
    replace hc1 := of_decide_eq_true hc1
    refine W_skip ?_
    refine W_seq ?_
    refine W_block ?_
    refine W_seq ?_
    refine W_region ?_
    refine Rg_run rfl (o_iaR Tryd.underlying47 Tryd.sizeOf28 hs12 rfl rfl (by first | omega | (unfold I64; omega) | (simp; done) | (simp; omega) | (simp at *; omega))) ?_
    refine Rg_run rfl (o_ldRS Tryd.isAgg28 Tryd.sizeOf28 hs12 rfl (getE pz (by omega))) ?_
    refine Rg_alst rfl rfl Tryd.zeroValue28 rfl Tryd.sizeOf28 (fun _ => rfl) rfl rfl ?_
    intro b7 w8 x9 hge7 hb7
    replace hown := hown.mono (D' := fun g => w1.heap.size ≤ g ∧ g ≠ b7) (fun g h1 h2 => by omega)
    have hlt7 := hb7.lt
    change Box _ _ _ (encP _) at hb7
    have z10 := Bel.size x9
    replace hX := Bel.ex hX x9
    replace hXL4 := Bel.ex hXL4 x9
    replace hx := hx.ext x9
    replace hy := hy.ext x9
    replace hs12 := hs12.ext x9
    replace hown := hown.ext x9
    refine Rg_nil ?_
    refine W_seq ?_
    refine W_region ?_
    refine Rg_run rfl o_assignc ?_
    refine Rg_nil ?_
    refine W_seq ?_
    refine W_seq ?_
    refine W_region ?_
    refine Rg_run rfl (o_moveh (v := .slice _ _ _) rfl) ?_
    refine Rg_run rfl (o_llen Tryd.underlying47 rfl) ?_
    refine Rg_run rfl o_movec ?_
    refine Rg_nil ?_
    refine W_block ?_
    refine W_for (α := Nat) [(8, 8), (10, 10), (20, 27)] (fun j => [(20, .int .i64 (j : Int)), (8, .bool (minKeep y ((normS x).getD k pz) j))]) (fun j w' => (j ≤ y.length) ∧ Ext False w8 w') (fun j => y.length - j) 0 ⟨rfl, rfl, trivial⟩ ⟨Nat.zero_le _, Bel.refl _ _⟩ ?_
    rintro j fb13 w12 ⟨hj, hXL11⟩
    have z14 := Bel.size hXL11
    replace hX := Bel.ex hX hXL11
    replace hXL4 := Bel.ex hXL4 hXL11
    replace hx := hx.ext hXL11
    replace hy := hy.ext hXL11
    replace hs12 := hs12.ext hXL11
    replace hown := hown.ext hXL11
    replace hb7 := hb7.ext hXL11
    refine W_seq ?_
    refine W_region ?_
    refine Rg_run rfl (o_lss rfl rfl) ?_
    refine Rg_nil ?_
    refine W_seq ?_
    refine W_cond rfl (fun hc2 => ?_) (fun hc2 => ?_)
    · skip
      replace hc2 := of_decide_eq_true hc2
      refine W_skip ?_
      refine W_seq ?_
      refine W_block ?_
      refine W_seq ?_
      refine W_region ?_
      refine Rg_run rfl (o_iaR Tryd.underlying47 Tryd.sizeOf28 hy rfl rfl (by first | omega | (unfold I64; omega) | (simp; done) | (simp; omega) | (simp at *; omega))) ?_
      refine Rg_run rfl (o_ldRS Tryd.isAgg28 Tryd.sizeOf28 hy rfl (getE pz (by omega))) ?_
      refine Rg_alst rfl rfl Tryd.zeroValue28 rfl Tryd.sizeOf28 (fun _ => rfl) rfl rfl ?_
      intro b10 w15 x16 hge10 hb10
      have hlt10 := hb10.lt
      change Box _ _ _ (encP _) at hb10
      have z17 := Bel.size x16
      replace hX := Bel.ex hX x16
      replace hXL4 := Bel.ex hXL4 x16
      replace hXL11 := Bel.ex hXL11 x16
      replace hx := hx.ext x16
      replace hy := hy.ext x16
      replace hs12 := hs12.ext x16
      replace hown := hown.ext x16
      replace hb7 := hb7.ext x16
      refine Rg_nil ?_
      refine W_seq ?_
      refine W_region ?_
      refine Rg_run rfl (o_loadS Tryd.isAgg28 Tryd.sizeOf28 rfl hb10.at rfl) ?_
      refine Rg_run rfl (o_loadS Tryd.isAgg28 Tryd.sizeOf28 rfl hb7.at rfl) ?_
      refine Rg_enter rfl (o_call2 Tryd.call22 rfl rfl) (Ok.mono (rimplies_ok _ _ (oy _ (getD_mem (by omega))) _ (ox _ (normS_mem.1 (getD_mem (by omega))).1)) ?_)
      rintro _ w18 ⟨rfl, x19⟩
      have z20 := Bel.size x19
      replace hX := Bel.ex hX x19
      replace hXL4 := Bel.ex hXL4 x19
      replace hXL11 := Bel.ex hXL11 x19
      replace hx := hx.ext x19
      replace hy := hy.ext x19
      replace hs12 := hs12.ext x19
      replace hown := hown.ext x19
      replace hb7 := hb7.ext x19
      replace hb10 := hb10.ext x19
      refine Rg_nil ?_
      refine W_cond rfl (fun hc3 => ?_) (fun hc3 => ?_)
      · skip
        refine W_region ?_
        refine Rg_run rfl o_assignc ?_
        refine Rg_nil ?_
        refine W_region ?_
        refine Rg_run rfl (o_add rfl rfl (by first | omega | (unfold I64; omega) | (simp; done) | (simp; omega) | (simp at *; omega))) ?_
        refine Rg_run rfl (o_moveh (v := .int _ _) rfl) ?_
        refine Rg_nil ?_
        refine ⟨j + 1, ⟨?_, ?_, trivial⟩, ?_, ⟨?_, hXL11⟩, ?_⟩
        · first | rfl | (go_num) | (exact congrArg _ (by omega))
        · first | exact congrArg Value.bool (minKeep_no (by omega) hc3).symm | exact congrArg Value.bool (minKeep_yes (by omega) hc3).symm
        · repeat (first | exact off_refl _ _ | exact off_mix | refine off_put rfl ?_ | refine off_putN ?_ | refine off_setL rfl ?_ | refine off_mix' rfl ?_)
        · show j + 1 ≤ y.length; omega
        · omega
      · skip
        refine W_skip ?_
        refine W_region ?_
        refine Rg_run rfl (o_add rfl rfl (by first | omega | (unfold I64; omega) | (simp; done) | (simp; omega) | (simp at *; omega))) ?_
        refine Rg_run rfl (o_moveh (v := .int _ _) rfl) ?_
        refine Rg_nil ?_
        refine ⟨j + 1, ⟨?_, ?_, trivial⟩, ?_, ⟨?_, hXL11⟩, ?_⟩
        · first | rfl | (go_num) | (exact congrArg _ (by omega))
        · first | exact congrArg Value.bool (minKeep_no (by omega) hc3).symm | exact congrArg Value.bool (minKeep_yes (by omega) hc3).symm
        · repeat (first | exact off_refl _ _ | exact off_mix | refine off_put rfl ?_ | refine off_putN ?_ | refine off_setL rfl ?_ | refine off_mix' rfl ?_)
        · show j + 1 ≤ y.length; omega
        · omega
    · skip
      replace hc2 := of_decide_eq_false hc2; rw [minKeep_end (by omega)]
      refine W_exit ?_
      refine exAt_hit ?_
      refine W_seq ?_
      refine W_region ?_
      refine Rg_run rfl (o_moveh (v := .bool _) rfl) ?_
      refine Rg_nil ?_
      refine W_cond rfl (fun hc4 => ?_) (fun hc4 => ?_)
      · skip
        refine W_region ?_
        refine Rg_run rfl (o_moveh (v := u) rfl) ?_
        refine Rg_run rfl (o_loadS Tryd.isAgg28 Tryd.sizeOf28 rfl hb7.at rfl) ?_
        refine Rg_bs (vs := [.agg _]) ([(normS x).getD k pz]) rfl encP_ok el_rperm rfl rfl ⟨rfl, trivial⟩ rfl rfl rfl rfl ?_
        intro a31 w21 x22 hown31
        have z23 := Bel.size x22
        replace hX := Bel.ex hX x22
        replace hXL4 := Bel.ex hXL4 x22
        replace hx := hx.ext x22
        replace hy := hy.ext x22
        replace hs12 := hs12.ext x22
        replace hown := hown.ext x22
        replace hb7 := hb7.ext x22
        replace hown31 := hown31.mono (D' := fun g => w1.heap.size ≤ g) (fun g h1 h2 => by omega)
        refine Rg_app rfl encP_ok el_rperm rfl rfl hown (hown31.slA encP_ok) rfl (by have := List.length_filter_le (fun p => !(y.any fun q => impliesS q p)) ((normS x).take k); rw [List.length_take] at this; rw [List.length_singleton]; omega) (fun g h => by omega) ?_
        intro v32 w24 x25 hown
        have z26 := Bel.size x25
        replace hX := Bel.out hX x25 (fun g h1 h2 => by first | exact h2 | omega)
        replace hXL4 := Bel.out hXL4 x25 (fun g h1 h2 => by first | exact h2 | omega)
        replace hx := hx.keep x25 (fun g h1 h2 h3 => by omega)
        replace hy := hy.keep x25 (fun g h1 h2 h3 => by omega)
        replace hs12 := hs12.keep x25 (fun g h1 h2 h3 => by omega)
        replace hb7 := hb7.keep x25 (fun h => by omega)
        refine Rg_run rfl (o_assignh (v := v32) rfl) ?_
        refine Rg_nil ?_
        refine W_region ?_
        refine Rg_run rfl (o_add rfl rfl (by first | omega | (unfold I64; omega) | (simp; done) | (simp; omega) | (simp at *; omega))) ?_
        refine Rg_run rfl (o_moveh (v := .int _ _) rfl) ?_
        refine Rg_nil ?_
        refine ⟨(k + 1, v32), ⟨?_, ?_, trivial⟩, ?_, ⟨?_, hXL4, ?_⟩, ?_⟩
        · first | rfl | (go_num) | (exact congrArg _ (by omega))
        · first | rfl | (go_num) | (exact congrArg _ (by omega))
        · repeat (first | exact off_refl _ _ | exact off_mix | refine off_put rfl ?_ | refine off_putN ?_ | refine off_setL rfl ?_ | refine off_mix' rfl ?_)
        · show k + 1 ≤ (normS x).length; omega
        · show Own _ _ _ _ _ _ (((normS x).take (k + 1)).filter _); rw [filt_yes (z := pz) (by omega) hc4]; exact hown.mono (fun g h1 h2 => by omega)
        · show (normS x).length - (k + 1) < (normS x).length - k; omega
      · skip
        refine W_skip ?_
        refine W_region ?_
        refine Rg_run rfl (o_add rfl rfl (by first | omega | (unfold I64; omega) | (simp; done) | (simp; omega) | (simp at *; omega))) ?_
        refine Rg_run rfl (o_moveh (v := .int _ _) rfl) ?_
        refine Rg_nil ?_
        refine ⟨(k + 1, u), ⟨?_, ?_, trivial⟩, ?_, ⟨?_, hXL4, ?_⟩, ?_⟩
        · first | rfl | (go_num) | (exact congrArg _ (by omega))
        · first | rfl | (go_num) | (exact congrArg _ (by omega))
        · repeat (first | exact off_refl _ _ | exact off_mix | refine off_put rfl ?_ | refine off_putN ?_ | refine off_setL rfl ?_ | refine off_mix' rfl ?_)
        · show k + 1 ≤ (normS x).length; omega
        · show Own _ _ _ _ _ _ (((normS x).take (k + 1)).filter _); rw [filt_no (z := pz) (by omega) hc4]; exact hown.mono (fun g h1 h2 => by omega)
        · show (normS x).length - (k + 1) < (normS x).length - k; omega
  · skip
    replace hc1 := of_decide_eq_false hc1
    refine W_exit ?_
    refine exAt_hit ?_
    refine W_seq ?_
    refine W_region ?_
    refine Rg_run rfl (o_moveh (v := u) rfl) ?_
    refine Rg_run rfl (o_assignh (v := u) rfl) ?_
    refine Rg_nil ?_
    refine W_ret ?_
    refine ⟨_, res_tmp rfl rfl, ?_⟩
    rw [List.take_of_length_le (by omega)] at hown; exact ⟨hown.trd encP_ok, hX⟩

theorem rcommon_ok (w : World) (vx : Value) (x : List Perm) (hx : Rd encP 3 (Lt w.heap.size) w vx x) (nx : x.length ≤ 500) (ox : ∀ p ∈ x, (Perm.ok) p) (vy : Value) (y : List Perm) (hy : Rd encP 3 (Lt w.heap.size) w vy y) (ny : y.length ≤ 500) (oy : ∀ p ∈ y, (Perm.ok) p) : Ok Tryd.prog 34 #[vx, vy] w fun v w' => Rd encP 3 (Lt w'.heap.size) w' v (normS (rcomL x y)) ∧ Ext False w w' := by
  obtain ⟨ax, cx, rfl, hx⟩ := hx; have mx := hx.len
  obtain ⟨ay, cy, rfl, hy⟩ := hy; have my := hy.len
  refine Ok_of_W 40 Tryd.func34 rfl rfl rfl ?_
  have hX : Ext False w w := Bel.refl _ _
  refine W_seq ?_
  refine W_region ?_
  refine Rg_run rfl o_assignc ?_
  refine Rg_nil ?_
  refine W_seq ?_
  refine W_region ?_
  refine Rg_run rfl o_assignc ?_
  refine Rg_nil ?_
  refine W_seq ?_
  refine W_seq ?_
  refine W_region ?_
  refine Rg_run rfl (o_moveh (v := .slice _ _ _) rfl) ?_
  refine Rg_run rfl (o_llen Tryd.underlying47 rfl) ?_
  refine Rg_run rfl o_movec ?_
  refine Rg_nil ?_
  refine W_block ?_
  refine W_for (α := Nat × Value) [(5, 5), (7, 7), (9, 9), (12, 37)] (fun p => [(12, .int .i64 (p.1 : Int)), (5, p.2)]) (fun p w' => (p.1 ≤ x.length) ∧ Bel False (fun g => w.heap.size ≤ g) w w' ∧ (Own encP 3 28 (fun g => w.heap.size ≤ g) w' p.2 (rcomL (x.take p.1) y))) (fun p => x.length - p.1) (0, .slice none 0 0) ⟨rfl, rfl, trivial⟩ ⟨Nat.zero_le _, Bel.refl _ _, Own.nil _ _⟩ ?_
  rintro ⟨k, u⟩ fb3 w2 ⟨hk, hXL1, hown⟩
  dsimp only at *
  have z4 := Bel.size hXL1
  replace hX := Bel.out hX hXL1 (fun g h1 h2 => by first | exact h2 | omega)
  replace hx := hx.keep hXL1 (fun g h1 h2 h3 => by omega)
  replace hy := hy.keep hXL1 (fun g h1 h2 h3 => by omega)
  refine W_seq ?_
  refine W_region ?_
  refine Rg_run rfl (o_lss rfl rfl) ?_
  refine Rg_nil ?_
  refine W_seq ?_
  refine W_cond rfl (fun hc1 => ?_) (fun hc1 => ?_)
  · skip
    replace hc1 := of_decide_eq_true hc1
    refine W_skip ?_
    refine W_seq ?_
    refine W_block ?_
    refine W_seq ?_
    refine W_region ?_
    refine Rg_run rfl (o_iaR Tryd.underlying47 Tryd.sizeOf28 hx rfl rfl (by first | omega | (unfold I64; omega) | (simp; done) | (simp; omega) | (simp at *; omega))) ?_
    refine Rg_run rfl (o_ldRS Tryd.isAgg28 Tryd.sizeOf28 hx rfl (getE pz (by omega))) ?_
    refine Rg_alst rfl rfl Tryd.zeroValue28 rfl Tryd.sizeOf28 (fun _ => rfl) rfl rfl ?_
    intro b7 w5 x6 hge7 hb7
    replace hown := hown.mono (D' := fun g => w.heap.size ≤ g ∧ g ≠ b7) (fun g h1 h2 => by omega)
    have hlt7 := hb7.lt
    change Box _ _ _ (encP _) at hb7
    have z7 := Bel.size x6
    replace hX := Bel.ex hX x6
    replace hXL1 := Bel.ex hXL1 x6
    replace hx := hx.ext x6
    replace hy := hy.ext x6
    replace hown := hown.ext x6
    refine Rg_nil ?_
    refine W_seq ?_
    refine W_region ?_
    refine Rg_run rfl (o_moveh (v := .slice _ _ _) rfl) ?_
    refine Rg_run rfl (o_llen Tryd.underlying47 rfl) ?_
    refine Rg_run rfl o_movec ?_
    refine Rg_nil ?_
    refine W_block ?_
    refine W_for (α := Nat × Value) [(5, 5), (9, 9), (18, 36)] (fun q => [(18, .int .i64 (q.1 : Int)), (5, q.2)]) (fun q w' => (q.1 ≤ y.length) ∧ Bel False (fun g => w.heap.size ≤ g ∧ g ≠ b7) w5 w' ∧ (Own encP 3 28 (fun g => w.heap.size ≤ g ∧ g ≠ b7) w' q.2 (rcomL (x.take k) y ++ (y.take q.1).flatMap (rcomStep (x.getD k pz))))) (fun q => y.length - q.1) (0, u) ⟨rfl, rfl, trivial⟩ ⟨Nat.zero_le _, Bel.refl _ _, (by simpa using hown)⟩ ?_
    rintro ⟨j, u2⟩ fb10 w9 ⟨hj, hXL8, hown⟩
    dsimp only at *
    have z11 := Bel.size hXL8
    replace hX := Bel.out hX hXL8 (fun g h1 h2 => by first | exact h2 | omega)
    replace hXL1 := Bel.out hXL1 hXL8 (fun g h1 h2 => by first | exact h2 | omega)
    replace hx := hx.keep hXL8 (fun g h1 h2 h3 => by omega)
    replace hy := hy.keep hXL8 (fun g h1 h2 h3 => by omega)
    replace hb7 := hb7.keep hXL8 (fun h => by omega)
    have hr1 := rcomL_room (x := x) (y := y) (k := k) (by omega) nx ny; have hr2 := rcomIn_len (x.getD k pz) (y.take j); rw [List.length_take] at hr2
    refine W_seq ?_
    refine W_region ?_
    refine Rg_run rfl (o_lss rfl rfl) ?_
    refine Rg_nil ?_
    refine W_seq ?_
    refine W_cond rfl (fun hc2 => ?_) (fun hc2 => ?_)
    · skip
      replace hc2 := of_decide_eq_true hc2
      refine W_skip ?_
      refine W_seq ?_
      refine W_block ?_
      refine W_seq ?_
      refine W_region ?_
      refine Rg_run rfl (o_iaR Tryd.underlying47 Tryd.sizeOf28 hy rfl rfl (by first | omega | (unfold I64; omega) | (simp; done) | (simp; omega) | (simp at *; omega))) ?_
      refine Rg_run rfl (o_ldRS Tryd.isAgg28 Tryd.sizeOf28 hy rfl (getE pz (by omega))) ?_
      refine Rg_alst rfl rfl Tryd.zeroValue28 rfl Tryd.sizeOf28 (fun _ => rfl) rfl rfl ?_
      intro b9 w12 x13 hge9 hb9
      replace hown := hown.mono (D' := fun g => w.heap.size ≤ g ∧ g ≠ b7 ∧ g ≠ b9) (fun g h1 h2 => by omega)
      have hlt9 := hb9.lt
      change Box _ _ _ (encP _) at hb9
      have z14 := Bel.size x13
      replace hX := Bel.ex hX x13
      replace hXL1 := Bel.ex hXL1 x13
      replace hXL8 := Bel.ex hXL8 x13
      replace hx := hx.ext x13
      replace hy := hy.ext x13
      replace hb7 := hb7.ext x13
      replace hown := hown.ext x13
      refine Rg_nil ?_
      refine W_seq ?_
      refine W_seq ?_
      refine W_region ?_
      refine Rg_run rfl (o_loadS Tryd.isAgg28 Tryd.sizeOf28 rfl hb7.at rfl) ?_
      refine Rg_run rfl (o_loadS Tryd.isAgg28 Tryd.sizeOf28 rfl hb9.at rfl) ?_
      refine Rg_enter rfl (o_call2 Tryd.call22 rfl rfl) (Ok.mono (rimplies_ok _ _ (ox _ (getD_mem (by omega))) _ (oy _ (getD_mem (by omega)))) ?_)
      rintro _ w15 ⟨rfl, x16⟩
      have z17 := Bel.size x16
      replace hX := Bel.ex hX x16
      replace hXL1 := Bel.ex hXL1 x16
      replace hXL8 := Bel.ex hXL8 x16
      replace hx := hx.ext x16
      replace hy := hy.ext x16
      replace hb7 := hb7.ext x16
      replace hown := hown.ext x16
      replace hb9 := hb9.ext x16
      refine Rg_nil ?_
      refine W_cond rfl (fun hc3 => ?_) (fun hc3 => ?_)
      · skip
        refine W_region ?_
        refine Rg_run rfl (o_moveh (v := u2) rfl) ?_
        refine Rg_run rfl (o_loadS Tryd.isAgg28 Tryd.sizeOf28 rfl hb9.at rfl) ?_
        refine Rg_bs (vs := [.agg _]) ([y.getD j pz]) rfl encP_ok el_rperm rfl rfl ⟨rfl, trivial⟩ rfl rfl rfl rfl ?_
        intro a27 w18 x19 hown27
        have z20 := Bel.size x19
        replace hX := Bel.ex hX x19
        replace hXL1 := Bel.ex hXL1 x19
        replace hXL8 := Bel.ex hXL8 x19
        replace hx := hx.ext x19
        replace hy := hy.ext x19
        replace hb7 := hb7.ext x19
        replace hown := hown.ext x19
        replace hb9 := hb9.ext x19
        replace hown27 := hown27.mono (D' := fun g => w.heap.size ≤ g ∧ g ≠ b7) (fun g h1 h2 => by omega)
        refine Rg_app rfl encP_ok el_rperm rfl rfl hown (hown27.slA encP_ok) rfl (by rw [List.length_append, List.length_singleton]; omega) (fun g h => by omega) ?_
        intro v28 w21 x22 hown
        have z23 := Bel.size x22
        replace hX := Bel.out hX x22 (fun g h1 h2 => by first | exact h2 | omega)
        replace hXL1 := Bel.out hXL1 x22 (fun g h1 h2 => by first | exact h2 | omega)
        replace hXL8 := Bel.out hXL8 x22 (fun g h1 h2 => by first | exact h2 | omega)
        replace hx := hx.keep x22 (fun g h1 h2 h3 => by omega)
        replace hy := hy.keep x22 (fun g h1 h2 h3 => by omega)
        replace hb7 := hb7.keep x22 (fun h => by omega)
        replace hb9 := hb9.keep x22 (fun h => by omega)
        refine Rg_run rfl (o_assignh (v := v28) rfl) ?_
        refine Rg_nil ?_
        refine W_seq ?_
        refine W_region ?_
        refine Rg_run rfl (o_loadS Tryd.isAgg28 Tryd.sizeOf28 rfl hb9.at rfl) ?_
        refine Rg_run rfl (o_loadS Tryd.isAgg28 Tryd.sizeOf28 rfl hb7.at rfl) ?_
        refine Rg_enter rfl (o_call2 Tryd.call22 rfl rfl) (Ok.mono (rimplies_ok _ _ (oy _ (getD_mem (by omega))) _ (ox _ (getD_mem (by omega)))) ?_)
        rintro _ w24 ⟨rfl, x25⟩
        have z26 := Bel.size x25
        replace hX := Bel.ex hX x25
        replace hXL1 := Bel.ex hXL1 x25
        replace hXL8 := Bel.ex hXL8 x25
        replace hx := hx.ext x25
        replace hy := hy.ext x25
        replace hb7 := hb7.ext x25
        replace hown := hown.ext x25
        replace hb9 := hb9.ext x25
        refine Rg_nil ?_
        refine W_cond rfl (fun hc4 => ?_) (fun hc4 => ?_)
        · skip
          refine W_region ?_
          refine Rg_run rfl (o_moveh (v := v28) rfl) ?_
          refine Rg_run rfl (o_loadS Tryd.isAgg28 Tryd.sizeOf28 rfl hb7.at rfl) ?_
          refine Rg_bs (vs := [.agg _]) ([x.getD k pz]) rfl encP_ok el_rperm rfl rfl ⟨rfl, trivial⟩ rfl rfl rfl rfl ?_
          intro a34 w27 x28 hown34
          have z29 := Bel.size x28
          replace hX := Bel.ex hX x28
          replace hXL1 := Bel.ex hXL1 x28
          replace hXL8 := Bel.ex hXL8 x28
          replace hx := hx.ext x28
          replace hy := hy.ext x28
          replace hb7 := hb7.ext x28
          replace hown := hown.ext x28
          replace hb9 := hb9.ext x28
          replace hown34 := hown34.mono (D' := fun g => w.heap.size ≤ g ∧ g ≠ b7) (fun g h1 h2 => by omega)
          refine Rg_app rfl encP_ok el_rperm rfl rfl hown (hown34.slA encP_ok) rfl (by simp only [List.length_append, List.length_singleton]; omega) (fun g h => by omega) ?_
          intro v35 w30 x31 hown
          have z32 := Bel.size x31
          replace hX := Bel.out hX x31 (fun g h1 h2 => by first | exact h2 | omega)
          replace hXL1 := Bel.out hXL1 x31 (fun g h1 h2 => by first | exact h2 | omega)
          replace hXL8 := Bel.out hXL8 x31 (fun g h1 h2 => by first | exact h2 | omega)
          replace hx := hx.keep x31 (fun g h1 h2 h3 => by omega)
          replace hy := hy.keep x31 (fun g h1 h2 h3 => by omega)
          replace hb7 := hb7.keep x31 (fun h => by omega)
          replace hb9 := hb9.keep x31 (fun h => by omega)
          refine Rg_run rfl (o_assignh (v := v35) rfl) ?_
          refine Rg_nil ?_
          refine W_region ?_
          refine Rg_run rfl (o_add rfl rfl (by first | omega | (unfold I64; omega) | (simp; done) | (simp; omega) | (simp at *; omega))) ?_
          refine Rg_run rfl (o_moveh (v := .int _ _) rfl) ?_
          refine Rg_nil ?_
          refine ⟨(j + 1, v35), ⟨?_, ?_, trivial⟩, ?_, ⟨?_, hXL8, ?_⟩, ?_⟩
          · first | rfl | (go_num) | (exact congrArg _ (by omega))
          · first | rfl | (go_num) | (exact congrArg _ (by omega))
          · repeat (first | exact off_refl _ _ | exact off_mix | refine off_put rfl ?_ | refine off_putN ?_ | refine off_setL rfl ?_ | refine off_mix' rfl ?_)
          · show j + 1 ≤ y.length; omega
          · show Own _ _ _ _ _ _ (_ ++ (y.take (j + 1)).flatMap _); rw [rcomIn_succ (by omega), rcomStep]
            replace hown := hown.mono (D' := fun g => w.heap.size ≤ g ∧ g ≠ b7) (fun g h1 h2 => by omega)
            first
            | (rw [if_pos hc3, if_pos hc4]; simpa [List.append_assoc] using hown)
            | (rw [if_pos hc3, if_neg (by rw [hc4]; simp)]; simpa [List.append_assoc] using hown)
            | (rw [if_neg (by rw [hc3]; simp), if_pos hc5]; simpa [List.append_assoc] using hown)
            | (rw [if_neg (by rw [hc3]; simp), if_neg (by rw [hc5]; simp)]; simpa [List.append_assoc] using hown)
          · show y.length - (j + 1) < y.length - j; omega
        · skip
          refine W_skip ?_
          refine W_region ?_
          refine Rg_run rfl (o_add rfl rfl (by first | omega | (unfold I64; omega) | (simp; done) | (simp; omega) | (simp at *; omega))) ?_
          refine Rg_run rfl (o_moveh (v := .int _ _) rfl) ?_
          refine Rg_nil ?_
          refine ⟨(j + 1, v28), ⟨?_, ?_, trivial⟩, ?_, ⟨?_, hXL8, ?_⟩, ?_⟩
          · first | rfl | (go_num) | (exact congrArg _ (by omega))
          · first | rfl | (go_num) | (exact congrArg _ (by omega))
          · repeat (first | exact off_refl _ _ | exact off_mix | refine off_put rfl ?_ | refine off_putN ?_ | refine off_setL rfl ?_ | refine off_mix' rfl ?_)
          · show j + 1 ≤ y.length; omega
          · show Own _ _ _ _ _ _ (_ ++ (y.take (j + 1)).flatMap _); rw [rcomIn_succ (by omega), rcomStep]
            replace hown := hown.mono (D' := fun g => w.heap.size ≤ g ∧ g ≠ b7) (fun g h1 h2 => by omega)
            first
            | (rw [if_pos hc3, if_pos hc4]; simpa [List.append_assoc] using hown)
            | (rw [if_pos hc3, if_neg (by rw [hc4]; simp)]; simpa [List.append_assoc] using hown)
            | (rw [if_neg (by rw [hc3]; simp), if_pos hc5]; simpa [List.append_assoc] using hown)
            | (rw [if_neg (by rw [hc3]; simp), if_neg (by rw [hc5]; simp)]; simpa [List.append_assoc] using hown)
          · show y.length - (j + 1) < y.length - j; omega
      · skip
        refine W_skip ?_
        refine W_seq ?_
        refine W_region ?_
        refine Rg_run rfl (o_loadS Tryd.isAgg28 Tryd.sizeOf28 rfl hb9.at rfl) ?_
        refine Rg_run rfl (o_loadS Tryd.isAgg28 Tryd.sizeOf28 rfl hb7.at rfl) ?_
        refine Rg_enter rfl (o_call2 Tryd.call22 rfl rfl) (Ok.mono (rimplies_ok _ _ (oy _ (getD_mem (by omega))) _ (ox _ (getD_mem (by omega)))) ?_)
        rintro _ w33 ⟨rfl, x34⟩
        have z35 := Bel.size x34
        replace hX := Bel.ex hX x34
        replace hXL1 := Bel.ex hXL1 x34
        replace hXL8 := Bel.ex hXL8 x34
        replace hx := hx.ext x34
        replace hy := hy.ext x34
        replace hb7 := hb7.ext x34
        replace hown := hown.ext x34
        replace hb9 := hb9.ext x34
        refine Rg_nil ?_
        refine W_cond rfl (fun hc5 => ?_) (fun hc5 => ?_)
        · skip
          refine W_region ?_
          refine Rg_run rfl (o_moveh (v := u2) rfl) ?_
          refine Rg_run rfl (o_loadS Tryd.isAgg28 Tryd.sizeOf28 rfl hb7.at rfl) ?_
          refine Rg_bs (vs := [.agg _]) ([x.getD k pz]) rfl encP_ok el_rperm rfl rfl ⟨rfl, trivial⟩ rfl rfl rfl rfl ?_
          intro a34 w36 x37 hown34
          have z38 := Bel.size x37
          replace hX := Bel.ex hX x37
          replace hXL1 := Bel.ex hXL1 x37
          replace hXL8 := Bel.ex hXL8 x37
          replace hx := hx.ext x37
          replace hy := hy.ext x37
          replace hb7 := hb7.ext x37
          replace hown := hown.ext x37
          replace hb9 := hb9.ext x37
          replace hown34 := hown34.mono (D' := fun g => w.heap.size ≤ g ∧ g ≠ b7) (fun g h1 h2 => by omega)
          refine Rg_app rfl encP_ok el_rperm rfl rfl hown (hown34.slA encP_ok) rfl (by simp only [List.length_append, List.length_singleton]; omega) (fun g h => by omega) ?_
          intro v35 w39 x40 hown
          have z41 := Bel.size x40
          replace hX := Bel.out hX x40 (fun g h1 h2 => by first | exact h2 | omega)
          replace hXL1 := Bel.out hXL1 x40 (fun g h1 h2 => by first | exact h2 | omega)
          replace hXL8 := Bel.out hXL8 x40 (fun g h1 h2 => by first | exact h2 | omega)
          replace hx := hx.keep x40 (fun g h1 h2 h3 => by omega)
          replace hy := hy.keep x40 (fun g h1 h2 h3 => by omega)
          replace hb7 := hb7.keep x40 (fun h => by omega)
          replace hb9 := hb9.keep x40 (fun h => by omega)
          refine Rg_run rfl (o_assignh (v := v35) rfl) ?_
          refine Rg_nil ?_
          refine W_region ?_
          refine Rg_run rfl (o_add rfl rfl (by first | omega | (unfold I64; omega) | (simp; done) | (simp; omega) | (simp at *; omega))) ?_
          refine Rg_run rfl (o_moveh (v := .int _ _) rfl) ?_
          refine Rg_nil ?_
          refine ⟨(j + 1, v35), ⟨?_, ?_, trivial⟩, ?_, ⟨?_, hXL8, ?_⟩, ?_⟩
          · first | rfl | (go_num) | (exact congrArg _ (by omega))
          · first | rfl | (go_num) | (exact congrArg _ (by omega))
          · repeat (first | exact off_refl _ _ | exact off_mix | refine off_put rfl ?_ | refine off_putN ?_ | refine off_setL rfl ?_ | refine off_mix' rfl ?_)
          · show j + 1 ≤ y.length; omega
          · show Own _ _ _ _ _ _ (_ ++ (y.take (j + 1)).flatMap _); rw [rcomIn_succ (by omega), rcomStep]
            replace hown := hown.mono (D' := fun g => w.heap.size ≤ g ∧ g ≠ b7) (fun g h1 h2 => by omega)
            first
            | (rw [if_pos hc3, if_pos hc4]; simpa [List.append_assoc] using hown)
            | (rw [if_pos hc3, if_neg (by rw [hc4]; simp)]; simpa [List.append_assoc] using hown)
            | (rw [if_neg (by rw [hc3]; simp), if_pos hc5]; simpa [List.append_assoc] using hown)
            | (rw [if_neg (by rw [hc3]; simp), if_neg (by rw [hc5]; simp)]; simpa [List.append_assoc] using hown)
          · show y.length - (j + 1) < y.length - j; omega
        · skip
          refine W_skip ?_
          refine W_region ?_
          refine Rg_run rfl (o_add rfl rfl (by first | omega | (unfold I64; omega) | (simp; done) | (simp; omega) | (simp at *; omega))) ?_
          refine Rg_run rfl (o_moveh (v := .int _ _) rfl) ?_
          refine Rg_nil ?_
          refine ⟨(j + 1, u2), ⟨?_, ?_, trivial⟩, ?_, ⟨?_, hXL8, ?_⟩, ?_⟩
          · first | rfl | (go_num) | (exact congrArg _ (by omega))
          · first | rfl | (go_num) | (exact congrArg _ (by omega))
          · repeat (first | exact off_refl _ _ | exact off_mix | refine off_put rfl ?_ | refine off_putN ?_ | refine off_setL rfl ?_ | refine off_mix' rfl ?_)
          · show j + 1 ≤ y.length; omega
          · show Own _ _ _ _ _ _ (_ ++ (y.take (j + 1)).flatMap _); rw [rcomIn_succ (by omega), rcomStep]
            replace hown := hown.mono (D' := fun g => w.heap.size ≤ g ∧ g ≠ b7) (fun g h1 h2 => by omega)
            first
            | (rw [if_pos hc3, if_pos hc4]; simpa [List.append_assoc] using hown)
            | (rw [if_pos hc3, if_neg (by rw [hc4]; simp)]; simpa [List.append_assoc] using hown)
            | (rw [if_neg (by rw [hc3]; simp), if_pos hc5]; simpa [List.append_assoc] using hown)
            | (rw [if_neg (by rw [hc3]; simp), if_neg (by rw [hc5]; simp)]; simpa [List.append_assoc] using hown)
          · show y.length - (j + 1) < y.length - j; omega
    · skip
      replace hc2 := of_decide_eq_false hc2
      refine W_exit ?_
      refine exAt_hit ?_
      refine W_region ?_
      refine Rg_run rfl (o_add rfl rfl (by first | omega | (unfold I64; omega) | (simp; done) | (simp; omega) | (simp at *; omega))) ?_
      refine Rg_run rfl (o_moveh (v := .int _ _) rfl) ?_
      refine Rg_nil ?_
      refine ⟨(k + 1, u2), ⟨?_, ?_, trivial⟩, ?_, ⟨?_, hXL1, ?_⟩, ?_⟩
      · first | rfl | (go_num) | (exact congrArg _ (by omega))
      · first | rfl | (go_num) | (exact congrArg _ (by omega))
      · repeat (first | exact off_refl _ _ | exact off_mix | refine off_put rfl ?_ | refine off_putN ?_ | refine off_setL rfl ?_ | refine off_mix' rfl ?_)
      · show k + 1 ≤ x.length; omega
      · show Own _ _ _ _ _ _ (rcomL (x.take (k + 1)) y); rw [rcomL_succ (by omega)]; rw [show y.take j = y from List.take_of_length_le (by omega)] at hown; exact hown.mono (fun g h1 h2 => h2.1)
      · show x.length - (k + 1) < x.length - k; omega
  · skip
    replace hc1 := of_decide_eq_false hc1; rw [List.take_of_length_le (by omega)] at hown
    refine W_exit ?_
    refine exAt_hit ?_
    refine W_seq ?_
    refine W_region ?_
    refine Rg_run rfl (o_moveh (v := u) rfl) ?_
    refine Rg_enter rfl (o_call1 Tryd.call28 rfl) (Ok.mono (rnormal_ok _ _ _ (hown.trd encP_ok) (by have := rcomL_room (x := x) (y := y) (Nat.le_refl _) nx ny; rw [List.take_length] at this; omega) (rcomL_ok ox oy)) ?_)
    rintro v39 w42 ⟨hrd39, x43⟩
    have z44 := Bel.size x43
    replace hX := Bel.ex hX x43
    replace hx := hx.ext x43
    replace hy := hy.ext x43
    replace hown := hown.ext x43
    refine Rg_run rfl (o_assignh (v := v39) rfl) ?_
    refine Rg_nil ?_
    refine W_ret ?_
    refine ⟨_, res_tmp rfl rfl, ?_⟩
    exact ⟨hrd39, hX⟩

end Go.Proofs.YtgnphpimkfcmlaaDoor
