/- Walks, printed by program: each theorem says what a function of the translation returns. -/
import Derived.Test.YtnhbdlllkmnpfaaDoorWtree6
import Derived.Test.YtnhbdlllkmnpfaaDoorWlaw7b
import Derived.Test.YtnhbdlllkmnpfaaDoorWlaw7d
namespace Go.Proofs.YtnhbdlllkmnpfaaDoor
open Go Go.Lx Go.RowKit
set_option maxRecDepth 100000
set_option linter.unusedVariables false
set_option linter.unusedSimpArgs false
set_option linter.unnecessarySimpa false
theorem law_PathTrees (w : World) (vl : Value) (l : List OpV) (hl : Rd encO 3 (Lt w.heap.size) w vl l) (dl : ∀ z ∈ l, Sl encB 1 (Lt w.heap.size) w z.a z.c z.path) (s : Str) : Ok Tryd.prog 7 #[vl, str s] w fun v w' => v = .bool (true) ∧ Ext False w w' := by
  obtain ⟨al, cl, rfl, hl⟩ := hl; have ml := hl.len
  refine Ok_of_W 71 Tryd.func7 rfl rfl rfl ?_
  have hX : Ext False w w := Bel.refl _ _
  refine W_seq ?_
  refine W_region ?_
  refine Rg_run rfl o_assignc ?_
  refine Rg_nil ?_
  refine W_seq ?_
  refine W_seq ?_
  refine W_region ?_
  refine Rg_enter rfl (o_call0 Tryd.call13) (Ok.mono (awake_ok _) ?_)
  rintro _ w1 ⟨rfl, x2⟩
  have z3 := Bel.size x2
  replace hX := Bel.ex hX x2
  replace dl := (fun z hz => (dl z hz).ext x2)
  replace hl := hl.ext x2
  refine Rg_run rfl (o_not rfl) ?_
  refine Rg_nil ?_
  refine W_cond rfl (fun hc1 => ?_) (fun hc1 => ?_)
  · skip
    refine W_seq ?_
    refine W_region ?_
    refine Rg_run rfl o_assignc ?_
    refine Rg_nil ?_
    refine W_ret ?_
    refine ⟨_, res_tmp rfl rfl, ?_⟩
    refine ⟨congrArg Value.bool ?_, hX⟩
    all_goals (cases hc1)
  · skip
    refine W_skip ?_
    refine W_seq ?_
    refine W_region ?_
    refine Rg_run rfl (o_moveh (v := .slice _ _ _) rfl) ?_
    refine Rg_enter rfl (o_call1 Tryd.call32 rfl) (Ok.mono (play_ok _ _ _ hl.trd (fun z hz => (dl z hz).top)) ?_)
    rintro _ w4 ⟨tb13, tm13, tt13, aw13, cw13, wl13, rfl, hlb13, hlm13, hbt13, hmt13, hsw13, hTr13, hln13, x5⟩
    have z6 := Bel.size x5
    replace hX := Bel.ex hX x5
    replace dl := (fun z hz => (dl z hz).ext x5)
    replace hl := hl.ext x5
    refine Rg_run rfl (o_moveh (v := .tuple _) rfl) ?_
    refine Rg_run rfl (o_extract rfl rfl) ?_
    refine Rg_run rfl (o_extract rfl rfl) ?_
    refine Rg_run rfl (o_assignh (v := .pointer _) rfl) ?_
    refine Rg_run rfl (o_assignh (v := .slice _ _ _) rfl) ?_
    refine Rg_nil ?_
    refine W_seq ?_
    refine W_seq ?_
    refine W_region ?_
    refine Rg_run rfl (o_moveh (v := .pointer _) rfl) ?_
    refine Rg_run rfl (o_peq Tryd.underlying42 rfl rfl) ?_
    refine Rg_run rfl (o_moveh (v := .bool _) rfl) ?_
    refine Rg_on 2 18 rfl rfl ?_
    refine Rg_run rfl (o_moveh (v := .pointer _) rfl) ?_
    refine Rg_on 2 18 rfl rfl ?_
    refine Rg_enter rfl (o_call1 Tryd.call33 rfl) (Ok.mono (tlen_ok _ _ _ _ hbt13 hmt13) ?_)
    rintro _ w7 ⟨rfl, x8⟩
    have z9 := Bel.size x8
    replace hX := Bel.ex hX x8
    replace dl := (fun z hz => (dl z hz).ext x8)
    replace hl := hl.ext x8
    replace hbt13 := hbt13.ext x8
    replace hmt13 := hmt13.ext x8
    replace hsw13 := hsw13.ext x8
    refine Rg_on 2 18 rfl rfl ?_
    refine Rg_run rfl (o_moveh (v := .slice _ _ _) rfl) ?_
    refine Rg_on 2 18 rfl rfl ?_
    refine Rg_run rfl (o_llen Tryd.underlying35 rfl) ?_
    refine Rg_on 2 18 rfl rfl ?_
    refine Rg_run rfl (o_neq rfl rfl) ?_
    refine Rg_run rfl (o_pickF (v := .bool _) rfl rfl) ?_
    refine Rg_run rfl (o_moveh (v := .bool _) rfl) ?_
    refine Rg_on 9 25 rfl (congrArg Value.bool (by rw [hTr13.len]; simp)) ?_
    refine Rg_run rfl (o_moveh (v := .pointer _) rfl) ?_
    refine Rg_on 9 25 rfl (congrArg Value.bool (by rw [hTr13.len]; simp)) ?_
    refine Rg_enter rfl (o_call2 Tryd.call34 rfl rfl) (Ok.mono (tbelow_ok _ _ _ tt13 hbt13 hmt13 (by omega) hTr13.okl _ (by decide)) ?_)
    rintro v27 w10 ⟨l27, hsr27, hown27, x11⟩
    have z12 := Bel.size x11
    replace hX := Bel.ex hX x11
    replace dl := (fun z hz => (dl z hz).ext x11)
    replace hl := hl.ext x11
    replace hbt13 := hbt13.ext x11
    replace hmt13 := hmt13.ext x11
    replace hsw13 := hsw13.ext x11
    replace hown27 := hown27.mono (D' := fun g => w.heap.size ≤ g) (fun g h1 h2 => by omega)
    have e27 : l27 = wl13 := below_all hTr13 hsr27; subst l27; obtain ⟨a27, c27, hv27, hs27⟩ := hown27.sl encS_ok; subst hv27
    refine Rg_on 9 25 rfl (congrArg Value.bool (by rw [hTr13.len]; simp)) ?_
    refine Rg_run rfl (o_moveh (v := .slice _ _ _) rfl) ?_
    refine Rg_on 9 25 rfl (congrArg Value.bool (by rw [hTr13.len]; simp)) ?_
    refine Rg_enter rfl (o_call2 Tryd.call27 rfl rfl) (Ok.mono (sequal_ok (False) _ _ _ _ _ _ wl13 wl13 _ hs27 hsw13) ?_)
    rintro _ w13 ⟨rfl, x14⟩
    have z15 := Bel.size x14
    replace hX := Bel.ex hX x14
    replace dl := (fun z hz => (dl z hz).ext x14)
    replace hl := hl.ext x14
    replace hbt13 := hbt13.ext x14
    replace hmt13 := hmt13.ext x14
    replace hsw13 := hsw13.ext x14
    replace hown27 := hown27.ext x14
    replace hs27 := hs27.ext x14
    refine Rg_on 9 25 rfl (congrArg Value.bool (by rw [hTr13.len]; simp)) ?_
    refine Rg_run rfl (o_not rfl) ?_
    refine Rg_run rfl (o_pickF (v := .bool _) (congrArg Value.bool (by rw [hTr13.len]; simp)) rfl) ?_
    refine Rg_nil ?_
    refine W_cond_false (congrArg Value.bool (by simp)) ?_
    refine W_skip ?_
    refine W_seq ?_
    refine W_seq ?_
    refine W_region ?_
    obtain ⟨n0, hn0⟩ : ∃ n, n = w13.heap.size := ⟨_, rfl⟩
    refine Rg_run rfl (o_moveh (v := .slice _ _ _) rfl) ?_
    refine Rg_enter rfl (o_call1 Tryd.call35 rfl) (Ok.mono (sclone_ok _ _ _ hsw13.trd (by have := hTr13.len; omega)) ?_)
    rintro v33 w16 ⟨hown33, x17⟩
    have z18 := Bel.size x17
    replace hX := Bel.ex hX x17
    replace dl := (fun z hz => (dl z hz).ext x17)
    replace hl := hl.ext x17
    replace hbt13 := hbt13.ext x17
    replace hmt13 := hmt13.ext x17
    replace hsw13 := hsw13.ext x17
    replace hown27 := hown27.ext x17
    replace hs27 := hs27.ext x17
    replace hown33 := hown33.mono (D' := fun g => n0 ≤ g) (fun g h1 h2 => by omega)
    refine Rg_run rfl (o_moveh (v := str _) rfl) ?_
    refine Rg_enter rfl (o_call1 Tryd.call14 rfl) (Ok.mono (cut7_ok (False) _ _) ?_)
    rintro _ w19 ⟨rfl, x20⟩
    have z21 := Bel.size x20
    replace hX := Bel.ex hX x20
    replace dl := (fun z hz => (dl z hz).ext x20)
    replace hl := hl.ext x20
    replace hbt13 := hbt13.ext x20
    replace hmt13 := hmt13.ext x20
    replace hsw13 := hsw13.ext x20
    replace hown27 := hown27.ext x20
    replace hs27 := hs27.ext x20
    replace hown33 := hown33.ext x20
    refine Rg_bs (vs := [str _, str _, str _]) ([cut7 s, [47, 97], [47, 98, 47, 97]]) rfl encS_ok el_string rfl rfl ⟨rfl, ⟨rfl, ⟨rfl, trivial⟩⟩⟩ rfl rfl rfl rfl ?_
    intro a36 w22 x23 hown36
    have z24 := Bel.size x23
    replace hX := Bel.ex hX x23
    replace dl := (fun z hz => (dl z hz).ext x23)
    replace hl := hl.ext x23
    replace hbt13 := hbt13.ext x23
    replace hmt13 := hmt13.ext x23
    replace hsw13 := hsw13.ext x23
    replace hown27 := hown27.ext x23
    replace hs27 := hs27.ext x23
    replace hown33 := hown33.ext x23
    replace hown36 := hown36.mono (D' := fun g => w.heap.size ≤ g) (fun g h1 h2 => by omega)
    refine Rg_app rfl encS_ok el_string rfl rfl hown33 (hown36.slA encS_ok) rfl (by have := hTr13.len; simp; omega) (fun g h => by omega) ?_
    intro v37 w25 x26 hown33
    have z27 := Bel.size x26
    replace hX := Bel.out hX x26 (fun g h1 h2 => by first | exact h2 | omega)
    replace dl := fun z hz => (dl z hz).keep x26 (fun g h1 h2 h3 => by omega)
    replace hl := hl.keep x26 (fun g h1 h2 h3 => by omega)
    replace hbt13 := hbt13.keep x26 (fun h => by omega)
    replace hmt13 := hmt13.keep x26 (fun h => by omega)
    replace hsw13 := hsw13.keep x26 (fun g h1 h2 h3 => by omega)
    obtain ⟨aL, cL, hvL, hsL⟩ := hown33.sl encS_ok
    subst hvL
    refine Rg_run rfl (o_llen Tryd.underlying35 rfl) ?_
    refine Rg_run rfl o_movec ?_
    refine Rg_nil ?_
    refine W_block ?_
    refine W_for (α := Nat) [(4, 4), (8, 8), (39, 70)] (fun k => [(39, .int .i64 (k : Int))]) (fun k w' => (k ≤ ((wl13 ++ [cut7 s, [47, 97], [47, 98, 47, 97]])).length) ∧ Ext False w25 w') (fun k => ((wl13 ++ [cut7 s, [47, 97], [47, 98, 47, 97]])).length - k) 0 ⟨rfl, trivial⟩ ⟨Nat.zero_le _, Bel.refl _ _⟩ ?_
    rintro k fb30 w29 ⟨hk, hXL28⟩
    have z31 := Bel.size hXL28
    replace hX := Bel.ex hX hXL28
    replace dl := (fun z hz => (dl z hz).ext hXL28)
    replace hl := hl.ext hXL28
    replace hbt13 := hbt13.ext hXL28
    replace hmt13 := hmt13.ext hXL28
    replace hsw13 := hsw13.ext hXL28
    replace hsL := hsL.ext hXL28
    refine W_seq ?_
    refine W_region ?_
    refine Rg_run rfl (o_lss rfl rfl) ?_
    refine Rg_nil ?_
    refine W_seq ?_
    refine W_cond rfl (fun hc3 => ?_) (fun hc3 => ?_)
    · skip
      replace hc3 := of_decide_eq_true hc3
      refine W_skip ?_
      refine W_seq ?_
      refine W_block ?_
      refine W_seq ?_
      refine W_region ?_
      refine Rg_run rfl (o_iaR Tryd.underlying35 Tryd.sizeOf9 hsL rfl rfl (by first | omega | (unfold I64; omega) | (simp; done) | (simp; omega) | (simp at *; omega))) ?_
      refine Rg_run rfl (o_ldR Tryd.isAgg9 hsL rfl rfl (getE [] (by omega)) rfl) ?_
      refine Rg_run rfl (o_assignh (v := str _) rfl) ?_
      refine Rg_nil ?_
      refine W_seq ?_
      refine W_region ?_
      have lp := ext_len hTr13.lokl s (show k < ((wl13 ++ [cut7 s, [47, 97], [47, 98, 47, 97]])).length by omega)
      generalize ((wl13 ++ [cut7 s, [47, 97], [47, 98, 47, 97]])).getD k [] = p at lp ⊢
      refine Rg_run rfl (o_moveh (v := .pointer _) rfl) ?_
      refine Rg_run rfl (o_moveh (v := str _) rfl) ?_
      refine Rg_enter rfl (o_call2 Tryd.call36 rfl rfl) (Ok.mono (thas_ok _ _ _ _ hbt13 hmt13 _) ?_)
      rintro _ w32 ⟨rfl, x33⟩
      have z34 := Bel.size x33
      replace hX := Bel.ex hX x33
      replace hXL28 := Bel.ex hXL28 x33
      replace dl := (fun z hz => (dl z hz).ext x33)
      replace hl := hl.ext x33
      replace hbt13 := hbt13.ext x33
      replace hmt13 := hmt13.ext x33
      replace hsw13 := hsw13.ext x33
      replace hsL := hsL.ext x33
      refine Rg_run rfl (o_moveh (v := .slice _ _ _) rfl) ?_
      refine Rg_run rfl (o_moveh (v := str _) rfl) ?_
      refine Rg_enter rfl (o_call2 Tryd.call37 rfl rfl) (Ok.mono (r7has_ok (False) _ _ wl13 hsw13.trd (by have := hTr13.len; omega) hTr13.lokl _ lp) ?_)
      rintro _ w35 ⟨rfl, x36⟩
      have z37 := Bel.size x36
      replace hX := Bel.ex hX x36
      replace hXL28 := Bel.ex hXL28 x36
      replace dl := (fun z hz => (dl z hz).ext x36)
      replace hl := hl.ext x36
      replace hbt13 := hbt13.ext x36
      replace hmt13 := hmt13.ext x36
      replace hsw13 := hsw13.ext x36
      replace hsL := hsL.ext x36
      refine Rg_run rfl (o_bneq Tryd.underlying4 rfl rfl) ?_
      refine Rg_run rfl (o_moveh (v := .bool _) rfl) ?_
      refine Rg_on 7 50 rfl (congrArg Value.bool (by rw [hTr13.any]; simp)) ?_
      refine Rg_run rfl (o_moveh (v := .pointer _) rfl) ?_
      refine Rg_on 7 50 rfl (congrArg Value.bool (by rw [hTr13.any]; simp)) ?_
      refine Rg_run rfl (o_moveh (v := str _) rfl) ?_
      refine Rg_on 7 50 rfl (congrArg Value.bool (by rw [hTr13.any]; simp)) ?_
      refine Rg_enter rfl (o_call2 Tryd.call38 rfl rfl) (Ok.mono (tchild_ok _ _ _ tt13 hbt13 hmt13 (by omega) hTr13.okl _ lp) ?_)
      rintro v53 w38 ⟨l53, hsr53, hown53, x39⟩
      have z40 := Bel.size x39
      replace hX := Bel.ex hX x39
      replace hXL28 := Bel.ex hXL28 x39
      replace dl := (fun z hz => (dl z hz).ext x39)
      replace hl := hl.ext x39
      replace hbt13 := hbt13.ext x39
      replace hmt13 := hmt13.ext x39
      replace hsw13 := hsw13.ext x39
      replace hsL := hsL.ext x39
      replace hown53 := hown53.mono (D' := fun g => w.heap.size ≤ g) (fun g h1 h2 => by omega)
      have e53 : l53 = childR wl13 p := child_eq hTr13 hsr53; subst l53; obtain ⟨a53, c53, hv53, hs53⟩ := hown53.sl encS_ok; subst hv53
      refine Rg_on 7 50 rfl (congrArg Value.bool (by rw [hTr13.any]; simp)) ?_
      refine Rg_run rfl (o_moveh (v := .slice _ _ _) rfl) ?_
      refine Rg_on 7 50 rfl (congrArg Value.bool (by rw [hTr13.any]; simp)) ?_
      refine Rg_run rfl (o_moveh (v := str _) rfl) ?_
      refine Rg_on 7 50 rfl (congrArg Value.bool (by rw [hTr13.any]; simp)) ?_
      refine Rg_enter rfl (o_call2 Tryd.call39 rfl rfl) (Ok.mono (r7child_ok _ _ wl13 hsw13.trd (by have := hTr13.len; omega) hTr13.lokl _ lp) ?_)
      rintro v56 w41 ⟨hown56, x42⟩
      replace hown53 := hown53.mono (D' := fun g => w.heap.size ≤ g ∧ ¬ (w38.heap.size ≤ g ∧ g < w41.heap.size)) (fun g h1 h2 => by omega)
      have z43 := Bel.size x42
      replace hX := Bel.ex hX x42
      replace hXL28 := Bel.ex hXL28 x42
      replace dl := (fun z hz => (dl z hz).ext x42)
      replace hl := hl.ext x42
      replace hbt13 := hbt13.ext x42
      replace hmt13 := hmt13.ext x42
      replace hsw13 := hsw13.ext x42
      replace hsL := hsL.ext x42
      replace hown53 := hown53.ext x42
      replace hs53 := hs53.ext x42
      replace hown56 := hown56.mono (D' := fun g => w.heap.size ≤ g) (fun g h1 h2 => by omega)
      change Own _ _ _ _ _ _ (childR wl13 p) at hown56; obtain ⟨a56, c56, hv56, hs56⟩ := hown56.sl encS_ok; subst hv56
      refine Rg_on 7 50 rfl (congrArg Value.bool (by rw [hTr13.any]; simp)) ?_
      refine Rg_enter rfl (o_call2 Tryd.call27 rfl rfl) (Ok.mono (sequal_ok (False) _ _ _ _ _ _ (childR wl13 p) (childR wl13 p) _ hs53 hs56) ?_)
      rintro _ w44 ⟨rfl, x45⟩
      have z46 := Bel.size x45
      replace hX := Bel.ex hX x45
      replace hXL28 := Bel.ex hXL28 x45
      replace dl := (fun z hz => (dl z hz).ext x45)
      replace hl := hl.ext x45
      replace hbt13 := hbt13.ext x45
      replace hmt13 := hmt13.ext x45
      replace hsw13 := hsw13.ext x45
      replace hsL := hsL.ext x45
      replace hown53 := hown53.ext x45
      replace hs53 := hs53.ext x45
      replace hown56 := hown56.ext x45
      replace hs56 := hs56.ext x45
      refine Rg_on 7 50 rfl (congrArg Value.bool (by rw [hTr13.any]; simp)) ?_
      refine Rg_run rfl (o_not rfl) ?_
      refine Rg_run rfl (o_pickF (v := .bool _) (congrArg Value.bool (by rw [hTr13.any]; simp)) rfl) ?_
      refine Rg_run rfl (o_moveh (v := .bool _) rfl) ?_
      refine Rg_on 17 60 rfl (congrArg Value.bool (by simp)) ?_
      refine Rg_run rfl (o_moveh (v := .pointer _) rfl) ?_
      refine Rg_on 17 60 rfl (congrArg Value.bool (by simp)) ?_
      refine Rg_run rfl (o_moveh (v := str _) rfl) ?_
      refine Rg_on 17 60 rfl (congrArg Value.bool (by simp)) ?_
      refine Rg_enter rfl (o_call2 Tryd.call34 rfl rfl) (Ok.mono (tbelow_ok _ _ _ tt13 hbt13 hmt13 (by omega) hTr13.okl _ lp) ?_)
      rintro v63 w47 ⟨l63, hsr63, hown63, x48⟩
      replace hown53 := hown53.mono (D' := fun g => w.heap.size ≤ g ∧ ¬ (w38.heap.size ≤ g ∧ g < w41.heap.size) ∧ ¬ (w44.heap.size ≤ g ∧ g < w47.heap.size)) (fun g h1 h2 => by omega)
      replace hown56 := hown56.mono (D' := fun g => w.heap.size ≤ g ∧ ¬ (w44.heap.size ≤ g ∧ g < w47.heap.size)) (fun g h1 h2 => by omega)
      have z49 := Bel.size x48
      replace hX := Bel.ex hX x48
      replace hXL28 := Bel.ex hXL28 x48
      replace dl := (fun z hz => (dl z hz).ext x48)
      replace hl := hl.ext x48
      replace hbt13 := hbt13.ext x48
      replace hmt13 := hmt13.ext x48
      replace hsw13 := hsw13.ext x48
      replace hsL := hsL.ext x48
      replace hown53 := hown53.ext x48
      replace hs53 := hs53.ext x48
      replace hown56 := hown56.ext x48
      replace hs56 := hs56.ext x48
      replace hown63 := hown63.mono (D' := fun g => w.heap.size ≤ g) (fun g h1 h2 => by omega)
      have e63 : l63 = belowR wl13 p := below_eq hTr13 hsr63; subst l63; obtain ⟨a63, c63, hv63, hs63⟩ := hown63.sl encS_ok; subst hv63
      refine Rg_on 17 60 rfl (congrArg Value.bool (by simp)) ?_
      refine Rg_run rfl (o_moveh (v := .slice _ _ _) rfl) ?_
      refine Rg_on 17 60 rfl (congrArg Value.bool (by simp)) ?_
      refine Rg_run rfl (o_moveh (v := str _) rfl) ?_
      refine Rg_on 17 60 rfl (congrArg Value.bool (by simp)) ?_
      refine Rg_enter rfl (o_call2 Tryd.call40 rfl rfl) (Ok.mono (r7below_ok _ _ wl13 hsw13.trd (by have := hTr13.len; omega) hTr13.lokl _ lp) ?_)
      rintro v66 w50 ⟨hown66, x51⟩
      replace hown53 := hown53.mono (D' := fun g => w.heap.size ≤ g ∧ ¬ (w38.heap.size ≤ g ∧ g < w41.heap.size) ∧ ¬ (w44.heap.size ≤ g ∧ g < w47.heap.size) ∧ ¬ (w47.heap.size ≤ g ∧ g < w50.heap.size)) (fun g h1 h2 => by omega)
      replace hown56 := hown56.mono (D' := fun g => w.heap.size ≤ g ∧ ¬ (w44.heap.size ≤ g ∧ g < w47.heap.size) ∧ ¬ (w47.heap.size ≤ g ∧ g < w50.heap.size)) (fun g h1 h2 => by omega)
      replace hown63 := hown63.mono (D' := fun g => w.heap.size ≤ g ∧ ¬ (w47.heap.size ≤ g ∧ g < w50.heap.size)) (fun g h1 h2 => by omega)
      have z52 := Bel.size x51
      replace hX := Bel.ex hX x51
      replace hXL28 := Bel.ex hXL28 x51
      replace dl := (fun z hz => (dl z hz).ext x51)
      replace hl := hl.ext x51
      replace hbt13 := hbt13.ext x51
      replace hmt13 := hmt13.ext x51
      replace hsw13 := hsw13.ext x51
      replace hsL := hsL.ext x51
      replace hown53 := hown53.ext x51
      replace hs53 := hs53.ext x51
      replace hown56 := hown56.ext x51
      replace hs56 := hs56.ext x51
      replace hown63 := hown63.ext x51
      replace hs63 := hs63.ext x51
      replace hown66 := hown66.mono (D' := fun g => w.heap.size ≤ g) (fun g h1 h2 => by omega)
      change Own _ _ _ _ _ _ (belowR wl13 p) at hown66; obtain ⟨a66, c66, hv66, hs66⟩ := hown66.sl encS_ok; subst hv66
      refine Rg_on 17 60 rfl (congrArg Value.bool (by simp)) ?_
      refine Rg_enter rfl (o_call2 Tryd.call27 rfl rfl) (Ok.mono (sequal_ok (False) _ _ _ _ _ _ (belowR wl13 p) (belowR wl13 p) _ hs63 hs66) ?_)
      rintro _ w53 ⟨rfl, x54⟩
      have z55 := Bel.size x54
      replace hX := Bel.ex hX x54
      replace hXL28 := Bel.ex hXL28 x54
      replace dl := (fun z hz => (dl z hz).ext x54)
      replace hl := hl.ext x54
      replace hbt13 := hbt13.ext x54
      replace hmt13 := hmt13.ext x54
      replace hsw13 := hsw13.ext x54
      replace hsL := hsL.ext x54
      replace hown53 := hown53.ext x54
      replace hs53 := hs53.ext x54
      replace hown56 := hown56.ext x54
      replace hs56 := hs56.ext x54
      replace hown63 := hown63.ext x54
      replace hs63 := hs63.ext x54
      replace hown66 := hown66.ext x54
      replace hs66 := hs66.ext x54
      refine Rg_on 17 60 rfl (congrArg Value.bool (by simp)) ?_
      refine Rg_run rfl (o_not rfl) ?_
      refine Rg_run rfl (o_pickF (v := .bool _) (congrArg Value.bool (by simp)) rfl) ?_
      refine Rg_nil ?_
      refine W_cond_false (congrArg Value.bool (by simp)) ?_
      refine W_skip ?_
      refine W_region ?_
      refine Rg_run rfl (o_add rfl rfl (by have := hsL.len; unfold I64; omega)) ?_
      refine Rg_run rfl (o_moveh (v := .int _ _) rfl) ?_
      refine Rg_nil ?_
      refine ⟨k + 1, ⟨?_, trivial⟩, ?_, ⟨?_, hXL28⟩, ?_⟩
      · first | rfl | (go_num) | (exact congrArg _ (by omega))
      · repeat (first | exact off_refl _ _ | exact off_mix | refine off_put rfl ?_ | refine off_putN ?_ | refine off_setL rfl ?_ | refine off_mix' rfl ?_)
      · show k + 1 ≤ ((wl13 ++ [cut7 s, [47, 97], [47, 98, 47, 97]])).length; omega
      · omega
    · skip
      replace hc3 := of_decide_eq_false hc3
      refine W_exit ?_
      refine exAt_hit ?_
      refine W_seq ?_
      refine W_region ?_
      refine Rg_run rfl o_assignc ?_
      refine Rg_nil ?_
      refine W_ret ?_
      refine ⟨_, res_tmp rfl rfl, ?_⟩
      refine ⟨congrArg Value.bool ?_, hX⟩
      all_goals (rfl)

end Go.Proofs.YtnhbdlllkmnpfaaDoor
