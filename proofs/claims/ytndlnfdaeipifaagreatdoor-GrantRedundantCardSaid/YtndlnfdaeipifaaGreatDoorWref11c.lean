/- Walks, printed by program: each theorem says what a function of the translation returns. -/
import Derived.Test.YtndlnfdaeipifaaGreatDoorWref11b
namespace Go.Proofs.YtndlnfdaeipifaaGreatDoor
open Go Go.Lx Go.RowKit
set_option maxRecDepth 100000
set_option linter.unusedVariables false
set_option linter.unusedSimpArgs false
set_option linter.unnecessarySimpa false
theorem rinsert_ok (w : World) (vl : Value) (l : List Perm) (hl : Rd encP 3 (Lt w.heap.size) w vl l) (nl : l.length ≤ 1000000) (ol : ∀ p ∈ l, (Perm.ok) p) (p : Perm) (hp : p.ok) : Ok Tryz.prog 127 #[vl, .agg (encP p).toArray] w fun v w' => Rd encP 3 (Lt w'.heap.size) w' v (insG cmpM l p) ∧ Ext False w w' := by
  obtain ⟨al, cl, rfl, hl⟩ := hl; have ml := hl.len
  refine Ok_of_W 43 Tryz.func127 rfl rfl rfl ?_
  have hX : Ext False w w := Bel.refl _ _
  refine W_seq ?_
  refine W_region ?_
  refine Rg_newB rfl (o_box (v := .agg _) rfl) ?_
  intro b3 w1 x2 hge3 hb3
  have hlt3 := hb3.lt
  change Box _ _ _ (encP _) at hb3
  have z3 := Bel.size x2
  replace hX := Bel.ex hX x2
  replace hl := hl.ext x2
  refine Rg_run rfl o_assignc ?_
  refine Rg_nil ?_
  refine W_seq ?_
  refine W_region ?_
  refine Rg_run rfl o_assignc ?_
  refine Rg_nil ?_
  refine W_seq ?_
  refine W_region ?_
  refine Rg_run rfl o_assignc ?_
  refine Rg_nil ?_
  refine W_seq ?_
  refine W_seq ?_
  refine W_region ?_
  refine Rg_run rfl (o_moveh (v := .slice _ _ _) rfl) ?_
  refine Rg_run rfl (o_llen Tryz.underlying39 rfl) ?_
  refine Rg_run rfl o_movec ?_
  refine Rg_nil ?_
  refine W_block ?_
  refine W_for (α := List Perm × Bool × Nat × Value) [(4, 6), (8, 8), (11, 35)] (fun g => [(11, .int .i64 (g.2.2.1 : Int)), (5, g.2.2.2), (6, .bool g.2.1)]) (fun g w' => (InsAt l p g.1 g.2.1 g.2.2.1) ∧ Bel False (fun g => w.heap.size ≤ g ∧ g ≠ b3) w1 w' ∧ (Own encP 3 41 (fun g => w.heap.size ≤ g ∧ g ≠ b3) w' g.2.2.2 g.1)) (fun g => l.length - g.2.2.1) ([], false, 0, .slice none 0 0) ⟨rfl, rfl, rfl, trivial⟩ ⟨InsAt.start _ _, Bel.refl _ _, Own.nil _ _⟩ ?_
  rintro g fb6 w5 ⟨hI, hXL4, hown⟩
  have z7 := Bel.size hXL4
  replace hX := Bel.out hX hXL4 (fun g h1 h2 => by first | exact h2 | omega)
  replace hl := hl.keep hXL4 (fun g h1 h2 h3 => by omega)
  replace hb3 := hb3.keep hXL4 (fun h => by omega)
  refine W_seq ?_
  refine W_region ?_
  refine Rg_run rfl (o_lss rfl rfl) ?_
  refine Rg_nil ?_
  refine W_seq ?_
  refine W_cond rfl (fun hc1 => ?_) (fun hc1 => ?_)
  · skip
    replace hc1 := of_decide_eq_true hc1
    refine W_skip ?_
    refine W_seq ?_
    refine W_block ?_
    refine W_seq ?_
    refine W_region ?_
    refine Rg_run rfl (o_iaR Tryz.underlying39 Tryz.sizeOf41 hl rfl rfl (by first | omega | (unfold I64; omega) | (simp; done) | (simp; omega) | (simp at *; omega))) ?_
    refine Rg_run rfl (o_ldRS Tryz.isAgg41 Tryz.sizeOf41 hl rfl (getE pz (by omega))) ?_
    refine Rg_alst rfl rfl Tryz.zeroValue41 rfl Tryz.sizeOf41 (fun _ => rfl) rfl rfl ?_
    intro b8 w8 x9 hge8 hb8
    replace hown := hown.mono (D' := fun g => w.heap.size ≤ g ∧ g ≠ b3 ∧ g ≠ b8) (fun g h1 h2 => by omega)
    have hlt8 := hb8.lt
    change Box _ _ _ (encP _) at hb8
    have z10 := Bel.size x9
    replace hX := Bel.ex hX x9
    replace hXL4 := Bel.ex hXL4 x9
    replace hl := hl.ext x9
    replace hb3 := hb3.ext x9
    replace hown := hown.ext x9
    refine Rg_nil ?_
    refine W_seq ?_
    refine W_seq ?_
    refine W_region ?_
    refine Rg_run rfl (o_loadS Tryz.isAgg41 Tryz.sizeOf41 rfl hb8.at rfl) ?_
    refine Rg_run rfl (o_loadS Tryz.isAgg41 Tryz.sizeOf41 rfl hb3.at rfl) ?_
    refine Rg_run rfl (o_teql eq_rperm rfl rfl) ?_
    refine Rg_nil ?_
    refine W_cond rfl (fun hc2 => ?_) (fun hc2 => ?_)
    · skip
      refine W_seq ?_
      refine W_region ?_
      refine Rg_run rfl (o_moveh (v := .slice _ _ _) rfl) ?_
      refine Rg_run rfl (o_assignh (v := .slice _ _ _) rfl) ?_
      refine Rg_nil ?_
      refine W_ret ?_
      refine ⟨_, res_tmp rfl rfl, ?_⟩
      exact ⟨by rw [insG_found (by omega) hc2]; exact hl.trd, hX⟩
    · skip
      refine W_skip ?_
      refine W_seq ?_
      refine W_seq ?_
      refine W_region ?_
      refine Rg_run rfl (o_moveh (v := .bool _) rfl) ?_
      refine Rg_run rfl (o_not rfl) ?_
      refine Rg_run rfl (o_moveh (v := .bool _) rfl) ?_
      refine Rg_may 2 21 rfl rfl rfl (fun hg => (o_loadS Tryz.isAgg41 Tryz.sizeOf41 rfl hb3.at rfl)) ?_
      refine Rg_may 2 21 rfl rfl rfl (fun hg => (o_loadS Tryz.isAgg41 Tryz.sizeOf41 rfl hb8.at rfl)) ?_
      refine Rg_mayCall 2 21 rfl rfl rfl (fun hg => ⟨(o_call2 Tryz.call147 (gsel (u := undef) hg) (gsel (u := undef) hg)), rcompare_ok _ _ hp _ (ol _ (getD_mem (by omega)))⟩) ?_
      intro w11 x12
      have z13 := Bel.size x12
      replace hX := Bel.ex hX x12
      replace hXL4 := Bel.ex hXL4 x12
      replace hb3 := hb3.ext x12
      replace hown := hown.ext x12
      replace hb8 := hb8.ext x12
      refine Rg_may 2 21 rfl rfl rfl (fun hg => (o_lss (gsel (u := undef) hg) rfl)) ?_
      refine Rg_run rfl (o_and (u := undef) rfl rfl) ?_
      refine Rg_nil ?_
      refine W_cond rfl (fun hc3 => ?_) (fun hc3 => ?_)
      · skip
        refine W_seq ?_
        refine W_region ?_
        refine Rg_run rfl (o_moveh (v := g.2.2.2) rfl) ?_
        refine Rg_run rfl (o_loadS Tryz.isAgg41 Tryz.sizeOf41 rfl hb3.at rfl) ?_
        refine Rg_bs (vs := [.agg _]) ([p]) rfl encP_ok el_rperm rfl rfl ⟨rfl, trivial⟩ rfl rfl rfl rfl ?_
        intro a29 w14 x15 hown29
        have z16 := Bel.size x15
        replace hX := Bel.ex hX x15
        replace hXL4 := Bel.ex hXL4 x15
        replace hown := hown.ext x15
        replace hb8 := hb8.ext x15
        replace hown29 := hown29.mono (D' := fun g => w.heap.size ≤ g ∧ g ≠ b3) (fun g h1 h2 => by omega)
        refine Rg_app rfl encP_ok el_rperm rfl rfl hown (hown29.slA encP_ok) rfl (by have := hI.2.1; simp; split at this <;> omega) (fun g h => by omega) ?_
        intro v30 w17 x18 hown
        have z19 := Bel.size x18
        replace hX := Bel.out hX x18 (fun g h1 h2 => by first | exact h2 | omega)
        replace hXL4 := Bel.out hXL4 x18 (fun g h1 h2 => by first | exact h2 | omega)
        replace hb8 := hb8.keep x18 (fun h => by omega)
        refine Rg_run rfl (o_assignh (v := v30) rfl) ?_
        refine Rg_nil ?_
        refine W_region ?_
        refine Rg_run rfl o_assignc ?_
        refine Rg_nil ?_
        refine W_region ?_
        refine Rg_run rfl (o_moveh (v := v30) rfl) ?_
        refine Rg_run rfl (o_loadS Tryz.isAgg41 Tryz.sizeOf41 rfl hb8.at rfl) ?_
        refine Rg_bs (vs := [.agg _]) ([l.getD g.2.2.1 pz]) rfl encP_ok el_rperm rfl rfl ⟨rfl, trivial⟩ rfl rfl rfl rfl ?_
        intro a33 w20 x21 hown33
        have z22 := Bel.size x21
        replace hX := Bel.ex hX x21
        replace hXL4 := Bel.ex hXL4 x21
        replace hown := hown.ext x21
        replace hown33 := hown33.mono (D' := fun g => w.heap.size ≤ g ∧ g ≠ b3) (fun g h1 h2 => by omega)
        refine Rg_app rfl encP_ok el_rperm rfl rfl hown (hown33.slA encP_ok) rfl (by have := hI.2.1; simp; split at this <;> omega) (fun g h => by omega) ?_
        intro v34 w23 x24 hown
        have z25 := Bel.size x24
        replace hX := Bel.out hX x24 (fun g h1 h2 => by first | exact h2 | omega)
        replace hXL4 := Bel.out hXL4 x24 (fun g h1 h2 => by first | exact h2 | omega)
        refine Rg_run rfl (o_assignh (v := v34) rfl) ?_
        refine Rg_nil ?_
        refine W_region ?_
        refine Rg_run rfl (o_add rfl rfl (by first | omega | (unfold I64; omega) | (simp; done) | (simp; omega) | (simp at *; omega))) ?_
        refine Rg_run rfl (o_moveh (v := .int _ _) rfl) ?_
        refine Rg_nil ?_
        refine ⟨(g.1 ++ [p] ++ [l.getD g.2.2.1 pz], true, g.2.2.1 + 1, v34), ⟨?_, ?_, ?_, trivial⟩, ?_, ⟨?_, hXL4, ?_⟩, ?_⟩
        · first | rfl | (go_num) | (exact congrArg _ (by omega))
        · first | rfl | (go_num) | (exact congrArg _ (by omega))
        · first | rfl | (go_num) | (exact congrArg _ (by omega))
        · repeat (first | exact off_refl _ _ | exact off_mix | refine off_put rfl ?_ | refine off_putN ?_ | refine off_setL rfl ?_ | refine off_mix' rfl ?_)
        · exact hI.here (by omega) hc2 hc3
        · exact hown.mono (fun g h1 h2 => by omega)
        · show l.length - (g.2.2.1 + 1) < l.length - g.2.2.1; omega
      · skip
        refine W_skip ?_
        refine W_region ?_
        refine Rg_run rfl (o_moveh (v := g.2.2.2) rfl) ?_
        refine Rg_run rfl (o_loadS Tryz.isAgg41 Tryz.sizeOf41 rfl hb8.at rfl) ?_
        refine Rg_bs (vs := [.agg _]) ([l.getD g.2.2.1 pz]) rfl encP_ok el_rperm rfl rfl ⟨rfl, trivial⟩ rfl rfl rfl rfl ?_
        intro a33 w26 x27 hown33
        have z28 := Bel.size x27
        replace hX := Bel.ex hX x27
        replace hXL4 := Bel.ex hXL4 x27
        replace hown := hown.ext x27
        replace hown33 := hown33.mono (D' := fun g => w.heap.size ≤ g ∧ g ≠ b3) (fun g h1 h2 => by omega)
        refine Rg_app rfl encP_ok el_rperm rfl rfl hown (hown33.slA encP_ok) rfl (by have := hI.2.1; simp; split at this <;> omega) (fun g h => by omega) ?_
        intro v34 w29 x30 hown
        have z31 := Bel.size x30
        replace hX := Bel.out hX x30 (fun g h1 h2 => by first | exact h2 | omega)
        replace hXL4 := Bel.out hXL4 x30 (fun g h1 h2 => by first | exact h2 | omega)
        refine Rg_run rfl (o_assignh (v := v34) rfl) ?_
        refine Rg_nil ?_
        refine W_region ?_
        refine Rg_run rfl (o_add rfl rfl (by first | omega | (unfold I64; omega) | (simp; done) | (simp; omega) | (simp at *; omega))) ?_
        refine Rg_run rfl (o_moveh (v := .int _ _) rfl) ?_
        refine Rg_nil ?_
        refine ⟨(g.1 ++ [l.getD g.2.2.1 pz], g.2.1, g.2.2.1 + 1, v34), ⟨?_, ?_, ?_, trivial⟩, ?_, ⟨?_, hXL4, ?_⟩, ?_⟩
        · first | rfl | (go_num) | (exact congrArg _ (by omega))
        · first | rfl | (go_num) | (exact congrArg _ (by omega))
        · first | rfl | (go_num) | (exact congrArg _ (by omega))
        · repeat (first | exact off_refl _ _ | exact off_mix | refine off_put rfl ?_ | refine off_putN ?_ | refine off_setL rfl ?_ | refine off_mix' rfl ?_)
        · exact hI.skip (by omega) hc2 hc3
        · exact hown.mono (fun g h1 h2 => by omega)
        · show l.length - (g.2.2.1 + 1) < l.length - g.2.2.1; omega
  · skip
    replace hc1 := of_decide_eq_false hc1
    refine W_exit ?_
    refine exAt_hit ?_
    refine W_seq ?_
    refine W_seq ?_
    refine W_region ?_
    refine Rg_run rfl (o_moveh (v := .bool _) rfl) ?_
    refine Rg_run rfl (o_not rfl) ?_
    refine Rg_nil ?_
    refine W_cond rfl (fun hc4 => ?_) (fun hc4 => ?_)
    · skip
      refine W_region ?_
      refine Rg_run rfl (o_moveh (v := g.2.2.2) rfl) ?_
      refine Rg_run rfl (o_loadS Tryz.isAgg41 Tryz.sizeOf41 rfl hb3.at rfl) ?_
      refine Rg_bs (vs := [.agg _]) ([p]) rfl encP_ok el_rperm rfl rfl ⟨rfl, trivial⟩ rfl rfl rfl rfl ?_
      intro a40 w32 x33 hown40
      have z34 := Bel.size x33
      replace hX := Bel.ex hX x33
      replace hown := hown.ext x33
      replace hown40 := hown40.mono (D' := fun g => w.heap.size ≤ g ∧ g ≠ b3) (fun g h1 h2 => by omega)
      refine Rg_app rfl encP_ok el_rperm rfl rfl hown (hown40.slA encP_ok) rfl (by have := hI.1; have := hI.2.1; simp; split at this <;> omega) (fun g h => by omega) ?_
      intro v41 w35 x36 hown
      have z37 := Bel.size x36
      replace hX := Bel.out hX x36 (fun g h1 h2 => by first | exact h2 | omega)
      refine Rg_run rfl (o_assignh (v := v41) rfl) ?_
      refine Rg_nil ?_
      refine W_seq ?_
      refine W_region ?_
      refine Rg_run rfl (o_moveh (v := v41) rfl) ?_
      refine Rg_run rfl (o_assignh (v := v41) rfl) ?_
      refine Rg_nil ?_
      refine W_ret ?_
      refine ⟨_, res_tmp rfl rfl, ?_⟩
      exact ⟨by rw [hI.fin (by omega), if_neg (by simpa using hc4)]; exact hown.trd encP_ok, hX⟩
    · skip
      refine W_skip ?_
      refine W_seq ?_
      refine W_region ?_
      refine Rg_run rfl (o_moveh (v := g.2.2.2) rfl) ?_
      refine Rg_run rfl (o_assignh (v := g.2.2.2) rfl) ?_
      refine Rg_nil ?_
      refine W_ret ?_
      refine ⟨_, res_tmp rfl rfl, ?_⟩
      exact ⟨by rw [hI.fin (by omega), if_pos (by simpa using hc4)]; exact hown.trd encP_ok, hX⟩

theorem rimplies_ok (w : World) (x : Perm) (hx : x.ok) (y : Perm) (hy : y.ok) : Ok Tryz.prog 56 #[.agg (encP x).toArray, .agg (encP y).toArray] w fun v w' => v = .bool (impliesS x y) ∧ Ext False w w' := by
  have hxa := hx.1; have hxp := hx.2; have hya := hy.1; have hyp := hy.2; have h8 := splitL_len y.path
  refine Ok_of_W 54 Tryz.func56 rfl rfl rfl ?_
  have hX : Ext False w w := Bel.refl _ _
  refine W_seq ?_
  refine W_region ?_
  refine Rg_newB rfl (o_box (v := .agg _) rfl) ?_
  intro b2 w1 x2 hge2 hb2
  have hlt2 := hb2.lt
  change Box _ _ _ (encP _) at hb2
  have z3 := Bel.size x2
  replace hX := Bel.ex hX x2
  refine Rg_newB rfl (o_box (v := .agg _) rfl) ?_
  intro b3 w4 x5 hge3 hb3
  have hlt3 := hb3.lt
  change Box _ _ _ (encP _) at hb3
  have z6 := Bel.size x5
  replace hX := Bel.ex hX x5
  replace hb2 := hb2.ext x5
  refine Rg_run rfl o_assignc ?_
  refine Rg_nil ?_
  refine W_seq ?_
  refine W_seq ?_
  refine W_region ?_
  refine Rg_run rfl (o_loadS Tryz.isAgg41 Tryz.sizeOf41 rfl hb2.at rfl) ?_
  refine Rg_enter rfl (o_call1 Tryz.call101 rfl) (Ok.mono (rcheck_ok _ _ (by first | assumption | omega | (simp; done) | (simp; omega) | (simp at *; omega))) ?_)
  rintro _ w7 ⟨rfl, x8⟩
  have z9 := Bel.size x8
  replace hX := Bel.ex hX x8
  replace hb2 := hb2.ext x8
  replace hb3 := hb3.ext x8
  refine Rg_run rfl (o_neq rfl rfl) ?_
  refine Rg_run rfl (o_moveh (v := .bool _) rfl) ?_
  refine Rg_may 3 10 rfl rfl rfl (fun hg => (o_loadS Tryz.isAgg41 Tryz.sizeOf41 rfl hb3.at rfl)) ?_
  refine Rg_mayCall 3 10 rfl rfl rfl (fun hg => ⟨(o_call1 Tryz.call101 (gsel (u := undef) hg)), rcheck_ok _ _ (by first | assumption | omega | (simp; done) | (simp; omega) | (simp at *; omega))⟩) ?_
  intro w10 x11
  have z12 := Bel.size x11
  replace hX := Bel.ex hX x11
  replace hb2 := hb2.ext x11
  replace hb3 := hb3.ext x11
  refine Rg_may 3 10 rfl rfl rfl (fun hg => (o_neq (gsel (u := undef) hg) rfl)) ?_
  refine Rg_run rfl (o_or (u := undef) rfl rfl) ?_
  refine Rg_run rfl (o_moveh (v := .bool _) rfl) ?_
  refine Rg_may 8 15 rfl rfl rfl (fun hg => (o_loadS Tryz.isAgg41 Tryz.sizeOf41 rfl hb2.at rfl)) ?_
  refine Rg_may 8 15 rfl rfl rfl (fun hg => (o_fa Tryz.underlying41 rfl Tryz.sizeOf9 rfl)) ?_
  refine Rg_may 8 15 rfl rfl rfl (fun hg => (o_load1 Tryz.isAgg9 (gsel (u := undef) hg) (hb3.at.get 0 rfl))) ?_
  refine Rg_may 8 15 rfl rfl rfl (fun hg => (o_fa Tryz.underlying41 rfl Tryz.sizeOf9 rfl)) ?_
  refine Rg_may 8 15 rfl rfl rfl (fun hg => (o_load1 Tryz.isAgg9 (gsel (u := undef) hg) (hb3.at.get 1 rfl))) ?_
  refine Rg_mayCall 8 15 rfl rfl rfl (fun hg => ⟨(o_call3 Tryz.call59 (gsel (u := undef) hg) (gsel (u := undef) hg) (gsel (u := undef) hg)), rcovers_ok _ _ (by first | assumption | omega | (simp; done) | (simp; omega) | (simp at *; omega)) _ (by first | assumption | omega | (simp; done) | (simp; omega) | (simp at *; omega)) _ (by first | assumption | omega | (simp; done) | (simp; omega) | (simp at *; omega))⟩) ?_
  intro w13 x14
  have z15 := Bel.size x14
  replace hX := Bel.ex hX x14
  replace hb2 := hb2.ext x14
  replace hb3 := hb3.ext x14
  refine Rg_may 8 15 rfl rfl rfl (fun hg => (o_not (gsel (u := undef) hg))) ?_
  refine Rg_run rfl (o_or (u := undef) rfl rfl) ?_
  refine Rg_nil ?_
  refine W_cond rfl (fun hc1 => ?_) (fun hc1 => ?_)
  · skip
    refine W_seq ?_
    refine W_region ?_
    refine Rg_run rfl o_assignc ?_
    refine Rg_nil ?_
    refine W_ret ?_
    refine ⟨_, res_tmp rfl rfl, ?_⟩
    refine ⟨congrArg Value.bool ?_, hX⟩
    all_goals (rw [← rImplies_eq, rImplies, if_pos hc1])
  · skip
    have hcov := hc1; rw [Bool.or_eq_false_iff, Bool.or_eq_false_iff] at hcov; have hcy : checkS y = 0 := by simpa using hcov.1.2
    refine W_skip ?_
    refine W_seq ?_
    refine W_seq ?_
    refine W_region ?_
    refine Rg_run rfl (o_fa Tryz.underlying41 rfl Tryz.sizeOf4 rfl) ?_
    refine Rg_run rfl (o_load1 Tryz.isAgg4 rfl (hb3.at.get 2 rfl)) ?_
    refine Rg_run rfl (o_not rfl) ?_
    refine Rg_nil ?_
    refine W_cond rfl (fun hc2 => ?_) (fun hc2 => ?_)
    · skip
      refine W_seq ?_
      refine W_region ?_
      refine Rg_run rfl o_assignc ?_
      refine Rg_nil ?_
      refine W_ret ?_
      refine ⟨_, res_tmp rfl rfl, ?_⟩
      refine ⟨congrArg Value.bool ?_, hX⟩
      all_goals (rw [← rImplies_eq, rImplies, if_neg (by rw [hc1]; simp), if_pos hc2])
    · skip
      refine W_skip ?_
      refine W_seq ?_
      refine W_region ?_
      refine Rg_run rfl (o_fa Tryz.underlying41 rfl Tryz.sizeOf9 rfl) ?_
      refine Rg_run rfl (o_load1 Tryz.isAgg9 rfl (hb3.at.get 1 rfl)) ?_
      refine Rg_enter rfl (o_call1 Tryz.call107 rfl) (Ok.mono (rsplit_ok _ _ (by first | assumption | omega | (simp; done) | (simp; omega) | (simp at *; omega))) ?_)
      rintro _ w16 ⟨a30, c30, l30, rfl, hs30, hl30, x17⟩
      have z18 := Bel.size x17
      replace hX := Bel.ex hX x17
      replace hb2 := hb2.ext x17
      replace hb3 := hb3.ext x17
      obtain rfl := hl30 (check_path hcy).1
      refine Rg_run rfl (o_moveh (v := .tuple _) rfl) ?_
      refine Rg_run rfl (o_extract rfl rfl) ?_
      refine Rg_run rfl (o_extract rfl rfl) ?_
      refine Rg_run rfl (o_assignh (v := .slice _ _ _) rfl) ?_
      refine Rg_run rfl (o_assignh (v := .bool _) rfl) ?_
      refine Rg_nil ?_
      refine W_seq ?_
      apply W_drawC (β := False) (fun _ => 0) [peqC _, peqC _, peqC _, (fun v w c => ∃ a, v = .slice a 0 0 ∧ postOwn encS 1 9 1 [] v w c), peqC _, (postOwn encS 1 9 1 (splitL y.path)), (fun v w c => ∃ a, v = .slice a 1 1 ∧ postOwn encS 1 9 0 [freshN] v w c), (postOwn encS 1 9 1 (splitL y.path ++ [freshN])), peqC _, peqC _, peqC _, peqC _, peqC _, (gC _ (fun v w c => ∃ a, v = .slice a 0 0 ∧ postOwn encS 1 9 2 [] v w c)), peqC _, (gC _ (postOwn encS 1 9 2 (splitL y.path))), (gC _ (fun v w c => ∃ a, v = .slice a 1 1 ∧ postOwn encS 1 9 0 [freshN] v w c)), (gC _ (postOwn encS 1 9 2 (splitL y.path ++ [freshN]))), (gC _ (peqC (str (rFresh y)))), peqC _, peqC _] [0, 0, 0, 1, 0, 1, 0, 1, 0, 0, 0, 0, 0, 2, 0, 2, 0, 2, 0, 0, 0] 21 mixed (by kernel_rfl) (by kernel_rfl) rfl ⟨peqC_stable _ _, peqC_stable _ _, peqC_stable _ _, (postBs_stable), peqC_stable _ _, (postOwn_stable), (postBs_stable), (postOwn_stable), peqC_stable _ _, peqC_stable _ _, peqC_stable _ _, peqC_stable _ _, peqC_stable _ _, (gC_stable postBs_stable), peqC_stable _ _, (gC_stable postOwn_stable), (gC_stable postBs_stable), (gC_stable postOwn_stable), (gC_stable (peqC_stable _ _)), peqC_stable _ _, peqC_stable _ _, trivial⟩ ?ob6 ?fin6
      case ob6 =>
        refine OblC_cons (fun w19 c21 x20 hc022 hk23 => ?_) ?_
        · skip
          replace x20 := RelG.ext0 x20
          have z24 := Bel.size x20
          have hb2 := hb2.ext x20
          refine bindC_nil ?_
          exact OpC_v rfl (o_loadS Tryz.isAgg41 Tryz.sizeOf41 rfl hb2.at rfl)
        refine OblC_cons (fun w25 c27 x26 hc028 hk29 => ?_) ?_
        · skip
          replace x26 := RelG.ext0 x26
          have z30 := Bel.size x26
          refine bindC_nil ?_
          exact OpC_v rfl (o_fa Tryz.underlying41 rfl Tryz.sizeOf9 rfl)
        refine OblC_cons (fun w31 c33 x32 hc034 hk35 => ?_) ?_
        · skip
          replace x32 := RelG.ext0 x32
          have z36 := Bel.size x32
          have hb3 := hb3.ext x32
          refine bindC_eq ?_
          refine bindC_nil ?_
          exact OpC_v rfl (o_load1 Tryz.isAgg9 rfl (hb3.at.get 0 rfl))
        refine OblC_cons (fun w37 c39 x38 hc040 hk41 => ?_) ?_
        · skip
          replace x38 := RelG.ext0 x38
          have z42 := Bel.size x38
          refine bindC_nil ?_
          exact OpC_bs (vs := []) [] encS_ok el_string rfl rfl trivial rfl rfl rfl rfl
        refine OblC_cons (fun w43 c45 x44 hc046 hk47 => ?_) ?_
        · skip
          replace x44 := RelG.ext0 x44
          have z48 := Bel.size x44
          refine bindC_nil ?_
          exact OpC_v rfl (o_moveh (v := .slice _ _ _) rfl)
        refine OblC_cons (fun w49 c51 x50 hc052 hk53 => ?_) ?_
        · skip
          replace x50 := RelG.ext0 x50
          have z54 := Bel.size x50
          have hs30 := hs30.ext x50
          refine bindC_mem (fun v36 hv36 => ?_)
          refine bindC_eq ?_
          refine bindC_nil ?_
          obtain ⟨a36, rfl, ho36⟩ := hv36
          exact OpC_app (l := []) (news := splitL y.path) (by decide) encS_ok el_string rfl rfl ho36 hs30 rfl (by rw [List.length_nil]; omega)
        refine OblC_cons (fun w55 c57 x56 hc058 hk59 => ?_) ?_
        · skip
          replace x56 := RelG.ext0 x56
          have z60 := Bel.size x56
          refine bindC_nil ?_
          exact OpC_bs (vs := [str _]) [freshN] encS_ok el_string rfl rfl ⟨rfl, trivial⟩ rfl rfl rfl rfl
        refine OblC_cons (fun w61 c63 x62 hc064 hk65 => ?_) ?_
        · skip
          replace x62 := RelG.ext0 x62
          have z66 := Bel.size x62
          refine bindC_mem (fun v38 hv38 => ?_)
          refine bindC_mem (fun v39 hv39 => ?_)
          refine bindC_mem (fun v38 hv38 => ?_)
          refine bindC_nil ?_
          obtain ⟨a39, rfl, ho39⟩ := hv39
          exact OpC_app (by decide) encS_ok el_string rfl rfl hv38 (Own.slA ho39 encS_ok) rfl (by simp; omega)
        refine OblC_cons (fun w67 c69 x68 hc070 hk71 => ?_) ?_
        · skip
          replace x68 := RelG.ext0 x68
          have z72 := Bel.size x68
          refine bindC_mem (fun v40 hv40 => ?_)
          refine bindC_mem (fun v40 hv40 => ?_)
          refine bindC_nil ?_
          exact OpC_call rfl (o_call1 Tryz.call108 rfl) (rjoin_ok (False) _ _ _ ((Own.rd hv40 encS_ok).top) (by simp; omega) (fun p hp => Nat.le_trans (fresh_mem hp) (by omega)) (by have := rFresh_len y; unfold rFresh at this; omega))
        refine OblC_cons (fun w73 c75 x74 hc076 hk77 => ?_) ?_
        · skip
          replace x74 := RelG.ext0 x74
          have z78 := Bel.size x74
          refine bindC_eq ?_
          refine bindC_eq ?_
          refine bindC_eq ?_
          refine bindC_eq ?_
          refine bindC_nil ?_
          exact OpC_call rfl (o_call3 Tryz.call59 rfl rfl rfl) (rcovers_ok _ _ hx _ (by omega) _ (by have := rFresh_len y; unfold rFresh at this; omega))
        refine OblC_cons (fun w79 c81 x80 hc082 hk83 => ?_) ?_
        · skip
          replace x80 := RelG.ext0 x80
          have z84 := Bel.size x80
          refine bindC_eq ?_
          refine bindC_eq ?_
          refine bindC_nil ?_
          exact OpC_v rfl (o_moveh (v := .bool _) rfl)
        refine OblC_cons (fun w85 c87 x86 hc088 hk89 => ?_) ?_
        · skip
          replace x86 := RelG.ext0 x86
          have z90 := Bel.size x86
          refine bindC_eq ?_
          refine bindC_nil ?_
          exact OpC_may 10 43 rfl rfl (fun hg => (o_fa Tryz.underlying41 rfl Tryz.sizeOf9 rfl))
        refine OblC_cons (fun w91 c93 x92 hc094 hk95 => ?_) ?_
        · skip
          replace x92 := RelG.ext0 x92
          have z96 := Bel.size x92
          have hb2 := hb2.ext x92
          refine bindC_eq ?_
          refine bindC_eq ?_
          refine bindC_nil ?_
          exact OpC_may 10 43 rfl rfl (fun hg => (o_load1 Tryz.isAgg9 (gsel (u := undef) hg) (hb2.at.get 1 rfl)))
        refine OblC_cons (fun w97 c99 x98 hc0100 hk101 => ?_) ?_
        · skip
          replace x98 := RelG.ext0 x98
          have z102 := Bel.size x98
          refine bindC_eq ?_
          refine bindC_nil ?_
          refine OpC_guard 10 43 rfl rfl (fun hg => ?_)
          exact OpC_bs (vs := []) [] encS_ok el_string rfl rfl trivial rfl rfl rfl rfl
        refine OblC_cons (fun w103 c105 x104 hc0106 hk107 => ?_) ?_
        · skip
          replace x104 := RelG.ext0 x104
          have z108 := Bel.size x104
          refine bindC_eq ?_
          refine bindC_nil ?_
          exact OpC_may 10 43 rfl rfl (fun hg => (o_moveh (v := .slice _ _ _) rfl))
        refine OblC_cons (fun w109 c111 x110 hc0112 hk113 => ?_) ?_
        · skip
          replace x110 := RelG.ext0 x110
          have z114 := Bel.size x110
          have hs30 := hs30.ext x110
          refine bindC_mem (fun v46 hv46 => ?_)
          refine bindC_eq ?_
          refine bindC_eq ?_
          refine bindC_eq ?_
          refine bindC_nil ?_
          refine OpC_guard 10 43 rfl rfl (fun hg => ?_)
          obtain ⟨a46, rfl, ho46⟩ := hv46.1 hg
          exact OpC_app (l := []) (news := splitL y.path) (by decide) encS_ok el_string rfl (gsel (u := undef) hg) ho46 hs30 rfl (by rw [List.length_nil]; omega)
        refine OblC_cons (fun w115 c117 x116 hc0118 hk119 => ?_) ?_
        · skip
          replace x116 := RelG.ext0 x116
          have z120 := Bel.size x116
          refine bindC_eq ?_
          refine bindC_nil ?_
          refine OpC_guard 10 43 rfl rfl (fun hg => ?_)
          exact OpC_bs (vs := [str _]) [freshN] encS_ok el_string rfl rfl ⟨rfl, trivial⟩ rfl rfl rfl rfl
        refine OblC_cons (fun w121 c123 x122 hc0124 hk125 => ?_) ?_
        · skip
          replace x122 := RelG.ext0 x122
          have z126 := Bel.size x122
          refine bindC_mem (fun v48 hv48 => ?_)
          refine bindC_mem (fun v49 hv49 => ?_)
          refine bindC_mem (fun v48 hv48 => ?_)
          refine bindC_eq ?_
          refine bindC_nil ?_
          refine OpC_guard 10 43 rfl rfl (fun hg => ?_)
          obtain ⟨a49, rfl, ho49⟩ := hv49.1 hg
          exact OpC_app (by decide) encS_ok el_string rfl rfl (hv48.1 hg) (Own.slA ho49 encS_ok) rfl (by simp; omega)
        refine OblC_cons (fun w127 c129 x128 hc0130 hk131 => ?_) ?_
        · skip
          replace x128 := RelG.ext0 x128
          have z132 := Bel.size x128
          refine bindC_mem (fun v50 hv50 => ?_)
          refine bindC_mem (fun v50 hv50 => ?_)
          refine bindC_eq ?_
          refine bindC_nil ?_
          refine OpC_guard 10 43 rfl rfl (fun hg => ?_)
          exact OpC_call rfl (o_call1 Tryz.call108 rfl) (rjoin_ok False _ _ _ ((Own.rd (hv50.1 hg) encS_ok).top) (by simp; omega) (fun p hp => Nat.le_trans (fresh_mem hp) (by omega)) (by have := rFresh_len y; unfold rFresh at this; omega))
        refine OblC_cons (fun w133 c135 x134 hc0136 hk137 => ?_) ?_
        · skip
          replace x134 := RelG.ext0 x134
          have z138 := Bel.size x134
          refine bindC_eq ?_
          refine bindC_mem (fun v51 hv51 => ?_)
          refine bindC_eq ?_
          refine bindC_nil ?_
          exact OpC_may 10 43 rfl rfl (fun hg => (o_sneq (gsel (u := undef) hg) (hv51.1 hg)))
        refine OblC_cons (fun w139 c141 x140 hc0142 hk143 => ?_) ?_
        · skip
          replace x140 := RelG.ext0 x140
          have z144 := Bel.size x140
          refine bindC_eq ?_
          refine bindC_eq ?_
          refine bindC_nil ?_
          exact OpC_v rfl (o_and (u := undef) rfl rfl)
        exact OblC_nil
      case fin6 =>
        intro w145 c147 x146 hc0148
        replace x146 := RelG.ext0 x146
        have z149 := Bel.size x146
        replace hX := Bel.ex hX x146
        replace hb2 := hb2.ext x146
        replace hb3 := hb3.ext x146
        replace hs30 := hs30.ext x146
        refine bindC_eq ?_
        refine bindC_eq ?_
        refine bindC_eq ?_
        refine bindC_mem (fun v36 _ => ?_)
        refine bindC_eq ?_
        refine bindC_mem (fun v38 _ => ?_)
        refine bindC_mem (fun v39 hv39 => ?_)
        refine bindC_mem (fun v40 hv40 => ?_)
        refine bindC_eq ?_
        refine bindC_eq ?_
        refine bindC_eq ?_
        refine bindC_eq ?_
        refine bindC_eq ?_
        refine bindC_mem (fun v46 _ => ?_)
        refine bindC_eq ?_
        refine bindC_mem (fun v48 _ => ?_)
        refine bindC_mem (fun v49 hv49 => ?_)
        refine bindC_mem (fun v50 hv50 => ?_)
        refine bindC_mem (fun v51 hv51 => ?_)
        refine bindC_eq ?_
        refine bindC_eq ?_
        refine bindC_nil ?_
        refine Rg_run rfl (o_assignh (v := .bool _) rfl) ?_
        refine Rg_nil ?_
        refine W_ret ?_
        refine ⟨_, res_tmp rfl rfl, ?_⟩
        refine ⟨congrArg Value.bool ?_, hX⟩
        all_goals (rw [← rImplies_eq, rImplies, if_neg (by rw [hc1]; simp), if_neg (by rw [hc2]; simp)]; rfl)

theorem raction_ok (β : Prop) (w : World) (n : UInt8) : Ok Tryz.prog 57 #[.int .u8 (n.toNat : Int)] w fun v w' => v = str (actionS n) ∧ Ext β w w' := by
  refine Ok_of_W 13 Tryz.func57 rfl rfl rfl ?_
  have hX : Ext β w w := Bel.refl _ _
  refine W_seq ?_
  refine W_region ?_
  refine Rg_run rfl o_assignc ?_
  refine Rg_nil ?_
  refine W_seq ?_
  refine W_region ?_
  refine Rg_bs (vs := [str _, str _, str _, str _, str _, str _, str _, str _, str _, str _]) (actions) rfl encS_ok el_string rfl rfl ⟨rfl, ⟨rfl, ⟨rfl, ⟨rfl, ⟨rfl, ⟨rfl, ⟨rfl, ⟨rfl, ⟨rfl, ⟨rfl, trivial⟩⟩⟩⟩⟩⟩⟩⟩⟩⟩ rfl rfl rfl rfl ?_
  intro a4 w1 x2 hown4
  have z3 := Bel.size x2
  replace hX := Bel.ex hX x2
  replace hown4 := hown4.mono (D' := fun g => w.heap.size ≤ g) (fun g h1 h2 => by omega)
  refine Rg_run rfl (o_assignh (v := .slice _ _ _) rfl) ?_
  refine Rg_nil ?_
  refine W_seq ?_
  refine W_region ?_
  refine Rg_run rfl (o_moveh (v := .slice _ _ _) rfl) ?_
  refine Rg_run rfl (o_moveh (v := .int _ _) rfl) ?_
  refine Rg_run rfl (o_convS Tryz.underlying5 Tryz.underlying3 rfl (wrapB n)) ?_
  refine Rg_run rfl (o_moveh (v := .slice _ _ _) rfl) ?_
  refine Rg_run rfl (o_llen Tryz.underlying156 rfl) ?_
  refine Rg_run rfl (o_remN (a := n.toNat) (b := 10) rfl rfl (by decide) (by have := n.toNat_lt; omega)) ?_
  refine Rg_run rfl (o_iaO (i := n.toNat % 10) Tryz.underlying156 Tryz.sizeOf9 hown4 rfl rfl (Nat.mod_lt _ (by decide))) ?_
  refine Rg_run rfl (o_ldR Tryz.isAgg9 (hown4.slA encS_ok) rfl rfl (getE [] (Nat.mod_lt _ (by decide))) rfl) ?_
  refine Rg_run rfl (o_assignh (v := str _) rfl) ?_
  refine Rg_nil ?_
  refine W_ret ?_
  refine ⟨_, res_tmp rfl rfl, ?_⟩
  refine ⟨congrArg str ?_, hX⟩
  all_goals (rfl)

theorem rpath_ok (w : World) (vl : Value) (l : List UInt8) (hl : Rd encB 1 (Lt w.heap.size) w vl l) : Ok Tryz.prog 58 #[vl] w fun v w' => v = str (pathS l) ∧ Ext False w w' := by
  obtain ⟨al, cl, rfl, hl⟩ := hl; have ml := hl.len
  refine Ok_of_W 33 Tryz.func58 rfl rfl rfl ?_
  have hX : Ext False w w := Bel.refl _ _
  refine W_seq ?_
  refine W_region ?_
  refine Rg_run rfl o_assignc ?_
  refine Rg_nil ?_
  refine W_seq ?_
  refine W_region ?_
  refine Rg_bs (vs := [str _, str _, str _, str _, str _, str _, str _, str _, str _, str _, str _, str _, str _, str _]) (pieces) rfl encS_ok el_string rfl rfl ⟨rfl, ⟨rfl, ⟨rfl, ⟨rfl, ⟨rfl, ⟨rfl, ⟨rfl, ⟨rfl, ⟨rfl, ⟨rfl, ⟨rfl, ⟨rfl, ⟨rfl, ⟨rfl, trivial⟩⟩⟩⟩⟩⟩⟩⟩⟩⟩⟩⟩⟩⟩ rfl rfl rfl rfl ?_
  intro a6 w1 x2 hown6
  have z3 := Bel.size x2
  replace hX := Bel.ex hX x2
  replace hl := hl.ext x2
  refine Rg_run rfl (o_assignh (v := .slice _ _ _) rfl) ?_
  refine Rg_nil ?_
  refine W_seq ?_
  refine W_region ?_
  refine Rg_run rfl o_assignc ?_
  refine Rg_nil ?_
  refine W_seq ?_
  refine W_seq ?_
  refine W_region ?_
  refine Rg_run rfl o_assignc ?_
  refine Rg_nil ?_
  refine W_block ?_
  refine W_for (α := Nat × Value) [(4, 5), (7, 30)] (fun q => [(5, .int .i64 (q.1 : Int)), (4, q.2)]) (fun q w' => (q.1 ≤ l.length ∧ q.1 ≤ 10) ∧ Bel False (fun g => w1.heap.size ≤ g) w1 w' ∧ (Own encS 1 9 (fun g => w1.heap.size ≤ g) w' q.2 ((l.take q.1).map pieceS))) (fun q => l.length - q.1) (0, .slice none 0 0) ⟨rfl, rfl, trivial⟩ ⟨⟨Nat.zero_le _, Nat.zero_le _⟩, Bel.refl _ _, Own.nil _ _⟩ ?_
  rintro ⟨k, u⟩ fb6 w5 ⟨⟨hk, hk2⟩, hXL4, hown⟩
  dsimp only at *
  have z7 := Bel.size hXL4
  replace hX := Bel.out hX hXL4 (fun g h1 h2 => by first | exact h2 | omega)
  replace hl := hl.keep hXL4 (fun g h1 h2 h3 => by omega)
  replace hown6 := hown6.keepD hXL4 (fun g h1 h2 h3 => by omega)
  refine W_seq ?_
  refine W_seq ?_
  refine W_region ?_
  refine Rg_run rfl (o_moveh (v := .int _ _) rfl) ?_
  refine Rg_run rfl (o_moveh (v := .slice _ _ _) rfl) ?_
  refine Rg_run rfl (o_llen Tryz.underlying49 rfl) ?_
  refine Rg_run rfl (o_lss rfl rfl) ?_
  refine Rg_run rfl (o_moveh (v := .bool _) rfl) ?_
  refine Rg_may 4 11 rfl rfl rfl (fun hg => (o_moveh (v := .int _ _) rfl)) ?_
  refine Rg_may 4 11 rfl rfl rfl (fun hg => (o_lss (gsel (u := undef) hg) rfl)) ?_
  refine Rg_run rfl (o_and (u := undef) rfl rfl) ?_
  refine Rg_nil ?_
  refine W_cond rfl (fun hc1 => ?_) (fun hc1 => ?_)
  · skip
    have hlt : k < l.length ∧ k < 10 := by simp at hc1; omega
    refine W_skip ?_
    refine W_seq ?_
    refine W_block ?_
    refine W_region ?_
    refine Rg_run rfl (o_moveh (v := u) rfl) ?_
    refine Rg_run rfl (o_moveh (v := .slice _ _ _) rfl) ?_
    refine Rg_run rfl (o_moveh (v := .slice _ _ _) rfl) ?_
    refine Rg_run rfl (o_moveh (v := .int _ _) rfl) ?_
    refine Rg_run rfl (o_iaR Tryz.underlying49 Tryz.sizeOf5 hl rfl rfl (by first | omega | (unfold I64; omega) | (simp; done) | (simp; omega) | (simp at *; omega))) ?_
    refine Rg_run rfl (o_ldR Tryz.isAgg5 hl rfl rfl (getE 0 (by omega)) rfl) ?_
    refine Rg_run rfl (o_convS Tryz.underlying5 Tryz.underlying3 rfl (wrapB _)) ?_
    refine Rg_run rfl (o_moveh (v := .slice _ _ _) rfl) ?_
    refine Rg_run rfl (o_llen Tryz.underlying156 rfl) ?_
    refine Rg_run rfl (o_remN (a := (l.getD k 0).toNat) (b := 14) rfl rfl (by decide) (by have := (l.getD k 0).toNat_lt; omega)) ?_
    refine Rg_run rfl (o_iaO (i := (l.getD k 0).toNat % 14) Tryz.underlying156 Tryz.sizeOf9 hown6 rfl rfl (Nat.mod_lt _ (by decide))) ?_
    refine Rg_run rfl (o_ldR Tryz.isAgg9 (hown6.slA encS_ok) rfl rfl (getE [] (Nat.mod_lt _ (by decide))) rfl) ?_
    refine Rg_bs (vs := [str _]) ([pieceS (l.getD k 0)]) rfl encS_ok el_string rfl rfl ⟨rfl, trivial⟩ rfl rfl rfl rfl ?_
    intro a29 w8 x9 hown29
    have z10 := Bel.size x9
    replace hX := Bel.ex hX x9
    replace hXL4 := Bel.ex hXL4 x9
    replace hown := hown.ext x9
    replace hown29 := hown29.mono (D' := fun g => w1.heap.size ≤ g) (fun g h1 h2 => by omega)
    refine Rg_app rfl encS_ok el_string rfl rfl hown (hown29.slA encS_ok) rfl (by simp; omega) (fun g h => by omega) ?_
    intro v30 w11 x12 hown
    have z13 := Bel.size x12
    replace hX := Bel.out hX x12 (fun g h1 h2 => by first | exact h2 | omega)
    replace hXL4 := Bel.out hXL4 x12 (fun g h1 h2 => by first | exact h2 | omega)
    refine Rg_run rfl (o_assignh (v := v30) rfl) ?_
    refine Rg_nil ?_
    refine W_region ?_
    refine Rg_run rfl (o_moveh (v := .int _ _) rfl) ?_
    refine Rg_run rfl (o_add rfl rfl (by unfold I64; omega)) ?_
    refine Rg_run rfl (o_assignh (v := .int _ _) rfl) ?_
    refine Rg_nil ?_
    refine ⟨(k + 1, v30), ⟨?_, ?_, trivial⟩, ?_, ⟨?_, hXL4, ?_⟩, ?_⟩
    · first | rfl | (go_num) | (exact congrArg _ (by omega))
    · first | rfl | (go_num) | (exact congrArg _ (by omega))
    · repeat (first | exact off_refl _ _ | exact off_mix | refine off_put rfl ?_ | refine off_putN ?_ | refine off_setL rfl ?_ | refine off_mix' rfl ?_)
    · exact ⟨by omega, by omega⟩
    · rw [map_take1 (by omega)]; exact hown
    · show l.length - (k + 1) < l.length - k; omega
  · skip
    have hge : ¬ (k < l.length ∧ k < 10) := by simp at hc1; omega
    refine W_exit ?_
    refine exAt_hit ?_
    refine W_seq ?_
    refine W_region ?_
    refine Rg_run rfl (o_moveh (v := u) rfl) ?_
    refine Rg_enter rfl (o_call1 Tryz.call108 rfl) (Ok.mono (rjoin_ok (False) _ _ _ (hown.trd encS_ok) (by simp; omega) (fun p hp => piece_mem hp) (by rw [← path_end hk hk2 hge]; have := pathS_len l; omega)) ?_)
    rintro _ w14 ⟨rfl, x15⟩
    have z16 := Bel.size x15
    replace hX := Bel.ex hX x15
    replace hl := hl.ext x15
    replace hown6 := hown6.ext x15
    replace hown := hown.ext x15
    refine Rg_run rfl (o_assignh (v := str _) rfl) ?_
    refine Rg_nil ?_
    refine W_ret ?_
    refine ⟨_, res_tmp rfl rfl, ?_⟩
    refine ⟨congrArg str ?_, hX⟩
    all_goals (exact (path_end hk hk2 hge).symm)

end Go.Proofs.YtndlnfdaeipifaaGreatDoor
