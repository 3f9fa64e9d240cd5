/- Walks, printed by program: each theorem says what a function of the translation returns. -/
import Derived.Test.YtgnphpimkfcmlaaDoorWnormal
import Derived.Test.YtgnphpimkfcmlaaDoorPure11c
namespace Go.Proofs.YtgnphpimkfcmlaaDoor
open Go Go.Lx Go.RowKit
set_option maxRecDepth 100000
set_option linter.unusedVariables false
set_option linter.unusedSimpArgs false
set_option linter.unnecessarySimpa false
theorem pcommon_ok (w : World) (vx : Value) (x : List Perm) (hx : Rd encP 3 (Lt w.heap.size) w vx x) (nx : x.length ≤ 1000) (ox : ∀ p ∈ x, (Perm.ok) p) (vy : Value) (y : List Perm) (hy : Rd encP 3 (Lt w.heap.size) w vy y) (ny : y.length ≤ 1000) (oy : ∀ p ∈ y, (Perm.ok) p) : Ok Tryd.prog 33 #[vx, vy] w fun v w' => Own encP 3 27 (Fsh w w') w' v (normS (comL x y)) ∧ Ext False w w' := by
  obtain ⟨ax, cx, rfl, hx⟩ := hx; have mx := hx.len
  obtain ⟨ay, cy, rfl, hy⟩ := hy; have my := hy.len
  refine Ok_of_W 42 Tryd.func33 rfl rfl rfl ?_
  have hX : Ext False w w := Bel.refl _ _
  refine W_seq ?_
  refine W_region ?_
  refine Rg_run rfl o_assignc ?_
  refine Rg_nil ?_
  refine W_seq ?_
  refine W_region ?_
  refine Rg_run rfl o_assignc ?_
  refine Rg_nil ?_
  refine W_seq ?_
  refine W_seq ?_
  refine W_region ?_
  refine Rg_run rfl (o_moveh (v := .slice _ _ _) rfl) ?_
  refine Rg_run rfl (o_llen Tryd.underlying46 rfl) ?_
  refine Rg_run rfl o_movec ?_
  refine Rg_nil ?_
  refine W_block ?_
  refine W_for (α := Nat × Value) [(5, 5), (7, 7), (9, 9), (12, 39)] (fun p => [(12, .int .i64 (p.1 : Int)), (5, p.2)]) (fun p w' => (p.1 ≤ x.length) ∧ Bel False (fun g => w.heap.size ≤ g) w w' ∧ (Own encP 3 27 (fun g => w.heap.size ≤ g) w' p.2 (comL (x.take p.1) y))) (fun p => x.length - p.1) (0, .slice none 0 0) ⟨rfl, rfl, trivial⟩ ⟨Nat.zero_le _, Bel.refl _ _, Own.nil _ _⟩ ?_
  rintro ⟨k, u⟩ fb3 w2 ⟨hk, hXL1, hown⟩
  dsimp only at *
  have z4 := Bel.size hXL1
  replace hX := Bel.out hX hXL1 (fun g h1 h2 => by first | exact h2 | omega)
  replace hx := hx.keep hXL1 (fun g h1 h2 h3 => by omega)
  replace hy := hy.keep hXL1 (fun g h1 h2 h3 => by omega)
  refine W_seq ?_
  refine W_region ?_
  refine Rg_run rfl (o_lss rfl rfl) ?_
  refine Rg_nil ?_
  refine W_seq ?_
  refine W_cond rfl (fun hc1 => ?_) (fun hc1 => ?_)
  · skip
    replace hc1 := of_decide_eq_true hc1
    refine W_skip ?_
    refine W_seq ?_
    refine W_block ?_
    refine W_seq ?_
    refine W_region ?_
    refine Rg_run rfl (o_iaR Tryd.underlying46 Tryd.sizeOf27 hx rfl rfl (by first | omega | (unfold I64; omega) | (simp; done) | (simp; omega) | (simp at *; omega))) ?_
    refine Rg_run rfl (o_ldRS Tryd.isAgg27 Tryd.sizeOf27 hx rfl (getE pz (by omega))) ?_
    refine Rg_alst rfl rfl Tryd.zeroValue27 rfl Tryd.sizeOf27 (fun _ => rfl) rfl rfl ?_
    intro b7 w5 x6 hge7 hb7
    replace hown := hown.mono (D' := fun g => w.heap.size ≤ g ∧ g ≠ b7) (fun g h1 h2 => by omega)
    have hlt7 := hb7.lt
    change Box _ _ _ (encP _) at hb7
    have z7 := Bel.size x6
    replace hX := Bel.ex hX x6
    replace hXL1 := Bel.ex hXL1 x6
    replace hx := hx.ext x6
    replace hy := hy.ext x6
    replace hown := hown.ext x6
    refine Rg_nil ?_
    refine W_seq ?_
    refine W_region ?_
    refine Rg_run rfl (o_moveh (v := .slice _ _ _) rfl) ?_
    refine Rg_run rfl (o_llen Tryd.underlying46 rfl) ?_
    refine Rg_run rfl o_movec ?_
    refine Rg_nil ?_
    refine W_block ?_
    refine W_for (α := Nat × Value) [(5, 5), (9, 9), (18, 38)] (fun q => [(18, .int .i64 (q.1 : Int)), (5, q.2)]) (fun q w' => (q.1 ≤ y.length) ∧ Bel False (fun g => w.heap.size ≤ g ∧ g ≠ b7) w5 w' ∧ (Own encP 3 27 (fun g => w.heap.size ≤ g ∧ g ≠ b7) w' q.2 (comL (x.take k) y ++ (y.take q.1).flatMap (comStep (x.getD k pz))))) (fun q => y.length - q.1) (0, u) ⟨rfl, rfl, trivial⟩ ⟨Nat.zero_le _, Bel.refl _ _, (by simpa using hown)⟩ ?_
    rintro ⟨j, u2⟩ fb10 w9 ⟨hj, hXL8, hown⟩
    dsimp only at *
    have z11 := Bel.size hXL8
    replace hX := Bel.out hX hXL8 (fun g h1 h2 => by first | exact h2 | omega)
    replace hXL1 := Bel.out hXL1 hXL8 (fun g h1 h2 => by first | exact h2 | omega)
    replace hx := hx.keep hXL8 (fun g h1 h2 h3 => by omega)
    replace hy := hy.keep hXL8 (fun g h1 h2 h3 => by omega)
    replace hb7 := hb7.keep hXL8 (fun h => by omega)
    have hr1 := comL_room (x := x) (y := y) (k := k) (by omega) nx ny; have hr2 := comIn_len (x.getD k pz) (y.take j); rw [List.length_take] at hr2
    refine W_seq ?_
    refine W_region ?_
    refine Rg_run rfl (o_lss rfl rfl) ?_
    refine Rg_nil ?_
    refine W_seq ?_
    refine W_cond rfl (fun hc2 => ?_) (fun hc2 => ?_)
    · skip
      replace hc2 := of_decide_eq_true hc2
      refine W_skip ?_
      refine W_seq ?_
      refine W_block ?_
      refine W_seq ?_
      refine W_region ?_
      refine Rg_run rfl (o_iaR Tryd.underlying46 Tryd.sizeOf27 hy rfl rfl (by first | omega | (unfold I64; omega) | (simp; done) | (simp; omega) | (simp at *; omega))) ?_
      refine Rg_run rfl (o_ldRS Tryd.isAgg27 Tryd.sizeOf27 hy rfl (getE pz (by omega))) ?_
      refine Rg_alst rfl rfl Tryd.zeroValue27 rfl Tryd.sizeOf27 (fun _ => rfl) rfl rfl ?_
      intro b9 w12 x13 hge9 hb9
      have hlt9 := hb9.lt
      change Box _ _ _ (encP _) at hb9
      have z14 := Bel.size x13
      replace hX := Bel.ex hX x13
      replace hXL1 := Bel.ex hXL1 x13
      replace hXL8 := Bel.ex hXL8 x13
      replace hx := hx.ext x13
      replace hy := hy.ext x13
      replace hb7 := hb7.ext x13
      replace hown := hown.ext x13
      refine Rg_nil ?_
      refine W_block ?_
      refine W_seq ?_
      refine W_region ?_
      refine Rg_run rfl (o_loadS Tryd.isAgg27 Tryd.sizeOf27 rfl hb7.at rfl) ?_
      refine Rg_run rfl (o_loadS Tryd.isAgg27 Tryd.sizeOf27 rfl hb9.at rfl) ?_
      refine Rg_enter rfl (o_call2 Tryd.call21 rfl rfl) (Ok.mono (implies_ok (False) _ (ox _ (getD_mem (by omega))) _ (oy _ (getD_mem (by omega))) _) ?_)
      rintro _ w15 ⟨rfl, x16⟩
      have z17 := Bel.size x16
      replace hX := Bel.ex hX x16
      replace hXL1 := Bel.ex hXL1 x16
      replace hXL8 := Bel.ex hXL8 x16
      replace hx := hx.ext x16
      replace hy := hy.ext x16
      replace hb7 := hb7.ext x16
      replace hown := hown.ext x16
      replace hb9 := hb9.ext x16
      refine Rg_run rfl (o_assignh (v := .bool _) rfl) ?_
      refine Rg_nil ?_
      refine W_cond rfl (fun hc3 => ?_) (fun hc3 => ?_)
      · skip
        refine W_region ?_
        refine Rg_run rfl (o_moveh (v := u2) rfl) ?_
        refine Rg_run rfl (o_loadS Tryd.isAgg27 Tryd.sizeOf27 rfl hb9.at rfl) ?_
        refine Rg_bs (vs := [.agg _]) ([y.getD j pz]) rfl encP_ok el_perm rfl rfl ⟨rfl, trivial⟩ rfl rfl rfl rfl ?_
        intro a28 w18 x19 hown28
        have z20 := Bel.size x19
        replace hX := Bel.ex hX x19
        replace hXL1 := Bel.ex hXL1 x19
        replace hXL8 := Bel.ex hXL8 x19
        replace hx := hx.ext x19
        replace hy := hy.ext x19
        replace hb7 := hb7.ext x19
        replace hown := hown.ext x19
        replace hb9 := hb9.ext x19
        replace hown28 := hown28.mono (D' := fun g => w.heap.size ≤ g) (fun g h1 h2 => by omega)
        refine Rg_app rfl encP_ok el_perm rfl rfl hown (hown28.slA encP_ok) rfl (by rw [List.length_append, List.length_singleton]; omega) (fun g h => by omega) ?_
        intro v29 w21 x22 hown
        have z23 := Bel.size x22
        replace hX := Bel.out hX x22 (fun g h1 h2 => by first | exact h2 | omega)
        replace hXL1 := Bel.out hXL1 x22 (fun g h1 h2 => by first | exact h2 | omega)
        replace hXL8 := Bel.out hXL8 x22 (fun g h1 h2 => by first | exact h2 | omega)
        replace hx := hx.keep x22 (fun g h1 h2 h3 => by omega)
        replace hy := hy.keep x22 (fun g h1 h2 h3 => by omega)
        replace hb7 := hb7.keep x22 (fun h => by omega)
        refine Rg_run rfl (o_assignh (v := v29) rfl) ?_
        refine Rg_nil ?_
        refine W_region ?_
        refine Rg_run rfl (o_add rfl rfl (by first | omega | (unfold I64; omega) | (simp; done) | (simp; omega) | (simp at *; omega))) ?_
        refine Rg_run rfl (o_moveh (v := .int _ _) rfl) ?_
        refine Rg_nil ?_
        refine ⟨(j + 1, v29), ⟨?_, ?_, trivial⟩, ?_, ⟨?_, hXL8, ?_⟩, ?_⟩
        · first | rfl | (go_num) | (exact congrArg _ (by omega))
        · first | rfl | (go_num) | (exact congrArg _ (by omega))
        · repeat (first | exact off_refl _ _ | exact off_mix | refine off_put rfl ?_ | refine off_putN ?_ | refine off_setL rfl ?_ | refine off_mix' rfl ?_)
        · show j + 1 ≤ y.length; omega
        · show Own _ _ _ _ _ _ (_ ++ (y.take (j + 1)).flatMap _); rw [comIn_succ (by omega), comStep]
          first
          | (rw [if_pos hc3, ← List.append_assoc]; exact hown)
          | (rw [if_neg (by rw [hc3]; simp), if_pos hc4, ← List.append_assoc]; exact hown)
          | (rw [if_neg (by rw [hc3]; simp), if_neg (by rw [hc4]; simp), List.append_nil]; exact hown)
        · show y.length - (j + 1) < y.length - j; omega
      · skip
        refine W_seq ?_
        refine W_region ?_
        refine Rg_run rfl (o_loadS Tryd.isAgg27 Tryd.sizeOf27 rfl hb9.at rfl) ?_
        refine Rg_run rfl (o_loadS Tryd.isAgg27 Tryd.sizeOf27 rfl hb7.at rfl) ?_
        refine Rg_enter rfl (o_call2 Tryd.call21 rfl rfl) (Ok.mono (implies_ok (False) _ (oy _ (getD_mem (by omega))) _ (ox _ (getD_mem (by omega))) _) ?_)
        rintro _ w24 ⟨rfl, x25⟩
        have z26 := Bel.size x25
        replace hX := Bel.ex hX x25
        replace hXL1 := Bel.ex hXL1 x25
        replace hXL8 := Bel.ex hXL8 x25
        replace hx := hx.ext x25
        replace hy := hy.ext x25
        replace hb7 := hb7.ext x25
        replace hown := hown.ext x25
        replace hb9 := hb9.ext x25
        refine Rg_run rfl (o_assignh (v := .bool _) rfl) ?_
        refine Rg_nil ?_
        refine W_cond rfl (fun hc4 => ?_) (fun hc4 => ?_)
        · skip
          refine W_region ?_
          refine Rg_run rfl (o_moveh (v := u2) rfl) ?_
          refine Rg_run rfl (o_loadS Tryd.isAgg27 Tryd.sizeOf27 rfl hb7.at rfl) ?_
          refine Rg_bs (vs := [.agg _]) ([x.getD k pz]) rfl encP_ok el_perm rfl rfl ⟨rfl, trivial⟩ rfl rfl rfl rfl ?_
          intro a36 w27 x28 hown36
          have z29 := Bel.size x28
          replace hX := Bel.ex hX x28
          replace hXL1 := Bel.ex hXL1 x28
          replace hXL8 := Bel.ex hXL8 x28
          replace hx := hx.ext x28
          replace hy := hy.ext x28
          replace hb7 := hb7.ext x28
          replace hown := hown.ext x28
          replace hb9 := hb9.ext x28
          replace hown36 := hown36.mono (D' := fun g => w.heap.size ≤ g) (fun g h1 h2 => by omega)
          refine Rg_app rfl encP_ok el_perm rfl rfl hown (hown36.slA encP_ok) rfl (by rw [List.length_append, List.length_singleton]; omega) (fun g h => by omega) ?_
          intro v37 w30 x31 hown
          have z32 := Bel.size x31
          replace hX := Bel.out hX x31 (fun g h1 h2 => by first | exact h2 | omega)
          replace hXL1 := Bel.out hXL1 x31 (fun g h1 h2 => by first | exact h2 | omega)
          replace hXL8 := Bel.out hXL8 x31 (fun g h1 h2 => by first | exact h2 | omega)
          replace hx := hx.keep x31 (fun g h1 h2 h3 => by omega)
          replace hy := hy.keep x31 (fun g h1 h2 h3 => by omega)
          replace hb7 := hb7.keep x31 (fun h => by omega)
          refine Rg_run rfl (o_assignh (v := v37) rfl) ?_
          refine Rg_nil ?_
          refine W_region ?_
          refine Rg_run rfl (o_add rfl rfl (by first | omega | (unfold I64; omega) | (simp; done) | (simp; omega) | (simp at *; omega))) ?_
          refine Rg_run rfl (o_moveh (v := .int _ _) rfl) ?_
          refine Rg_nil ?_
          refine ⟨(j + 1, v37), ⟨?_, ?_, trivial⟩, ?_, ⟨?_, hXL8, ?_⟩, ?_⟩
          · first | rfl | (go_num) | (exact congrArg _ (by omega))
          · first | rfl | (go_num) | (exact congrArg _ (by omega))
          · repeat (first | exact off_refl _ _ | exact off_mix | refine off_put rfl ?_ | refine off_putN ?_ | refine off_setL rfl ?_ | refine off_mix' rfl ?_)
          · show j + 1 ≤ y.length; omega
          · show Own _ _ _ _ _ _ (_ ++ (y.take (j + 1)).flatMap _); rw [comIn_succ (by omega), comStep]
            first
            | (rw [if_pos hc3, ← List.append_assoc]; exact hown)
            | (rw [if_neg (by rw [hc3]; simp), if_pos hc4, ← List.append_assoc]; exact hown)
            | (rw [if_neg (by rw [hc3]; simp), if_neg (by rw [hc4]; simp), List.append_nil]; exact hown)
          · show y.length - (j + 1) < y.length - j; omega
        · skip
          refine W_skip ?_
          refine W_region ?_
          refine Rg_run rfl (o_add rfl rfl (by first | omega | (unfold I64; omega) | (simp; done) | (simp; omega) | (simp at *; omega))) ?_
          refine Rg_run rfl (o_moveh (v := .int _ _) rfl) ?_
          refine Rg_nil ?_
          refine ⟨(j + 1, u2), ⟨?_, ?_, trivial⟩, ?_, ⟨?_, hXL8, ?_⟩, ?_⟩
          · first | rfl | (go_num) | (exact congrArg _ (by omega))
          · first | rfl | (go_num) | (exact congrArg _ (by omega))
          · repeat (first | exact off_refl _ _ | exact off_mix | refine off_put rfl ?_ | refine off_putN ?_ | refine off_setL rfl ?_ | refine off_mix' rfl ?_)
          · show j + 1 ≤ y.length; omega
          · show Own _ _ _ _ _ _ (_ ++ (y.take (j + 1)).flatMap _); rw [comIn_succ (by omega), comStep]
            first
            | (rw [if_pos hc3, ← List.append_assoc]; exact hown)
            | (rw [if_neg (by rw [hc3]; simp), if_pos hc4, ← List.append_assoc]; exact hown)
            | (rw [if_neg (by rw [hc3]; simp), if_neg (by rw [hc4]; simp), List.append_nil]; exact hown)
          · show y.length - (j + 1) < y.length - j; omega
    · skip
      replace hc2 := of_decide_eq_false hc2
      refine W_exit ?_
      refine exAt_hit ?_
      refine W_region ?_
      refine Rg_run rfl (o_add rfl rfl (by first | omega | (unfold I64; omega) | (simp; done) | (simp; omega) | (simp at *; omega))) ?_
      refine Rg_run rfl (o_moveh (v := .int _ _) rfl) ?_
      refine Rg_nil ?_
      refine ⟨(k + 1, u2), ⟨?_, ?_, trivial⟩, ?_, ⟨?_, hXL1, ?_⟩, ?_⟩
      · first | rfl | (go_num) | (exact congrArg _ (by omega))
      · first | rfl | (go_num) | (exact congrArg _ (by omega))
      · repeat (first | exact off_refl _ _ | exact off_mix | refine off_put rfl ?_ | refine off_putN ?_ | refine off_setL rfl ?_ | refine off_mix' rfl ?_)
      · show k + 1 ≤ x.length; omega
      · show Own _ _ _ _ _ _ (comL (x.take (k + 1)) y); rw [comL_succ (by omega)]; rw [show y.take j = y from List.take_of_length_le (by omega)] at hown; exact hown.mono (fun g h1 h2 => h2.1)
      · show x.length - (k + 1) < x.length - k; omega
  · skip
    replace hc1 := of_decide_eq_false hc1; rw [List.take_of_length_le (by omega)] at hown
    refine W_exit ?_
    refine exAt_hit ?_
    refine W_seq ?_
    refine W_region ?_
    refine Rg_run rfl (o_moveh (v := u) rfl) ?_
    refine Rg_enter rfl (o_call1 Tryd.call26 rfl) (Ok.mono (pnormal_ok _ _ _ (hown.trd encP_ok) (by have := comL_room (x := x) (y := y) (Nat.le_refl _) nx ny; rw [List.take_length] at this; omega) (comL_ok ox oy)) ?_)
    rintro v41 w33 ⟨hown41, x34⟩
    have z35 := Bel.size x34
    replace hX := Bel.ex hX x34
    replace hx := hx.ext x34
    replace hy := hy.ext x34
    replace hown := hown.ext x34
    replace hown41 := hown41.mono (D' := fun g => w.heap.size ≤ g) (fun g h1 h2 => by omega)
    refine Rg_run rfl (o_assignh (v := v41) rfl) ?_
    refine Rg_nil ?_
    refine W_ret ?_
    refine ⟨_, res_tmp rfl rfl, ?_⟩
    exact ⟨hown41.mono (fun g h1 h2 => by omega), hX⟩

end Go.Proofs.YtgnphpimkfcmlaaDoor
