/- Walks, printed by program: each theorem says what a function of the translation returns. -/
import Derived.Test.YtnhbdlllkmnpfaaDoorWtree6
import Derived.Test.YtnhbdlllkmnpfaaDoorWlaw7b
namespace Go.Proofs.YtnhbdlllkmnpfaaDoor
open Go Go.Lx Go.RowKit
set_option maxRecDepth 100000
set_option linter.unusedVariables false
set_option linter.unusedSimpArgs false
set_option linter.unnecessarySimpa false
theorem law_PathParents (w : World) (vl : Value) (l : List OpV) (hl : Rd encO 3 (Lt w.heap.size) w vl l) (dl : ∀ z ∈ l, Sl encB 1 (Lt w.heap.size) w z.a z.c z.path) : Ok Tryd.prog 8 #[vl] w fun v w' => v = .bool (true) ∧ Ext False w w' := by
  obtain ⟨al, cl, rfl, hl⟩ := hl; have ml := hl.len
  refine Ok_of_W 97 Tryd.func8 rfl rfl rfl ?_
  have hX : Ext False w w := Bel.refl _ _
  refine W_seq ?_
  refine W_region ?_
  refine Rg_run rfl o_assignc ?_
  refine Rg_nil ?_
  refine W_seq ?_
  refine W_seq ?_
  refine W_region ?_
  refine Rg_enter rfl (o_call0 Tryd.call13) (Ok.mono (awake_ok _) ?_)
  rintro _ w1 ⟨rfl, x2⟩
  have z3 := Bel.size x2
  replace hX := Bel.ex hX x2
  replace dl := (fun z hz => (dl z hz).ext x2)
  replace hl := hl.ext x2
  refine Rg_run rfl (o_not rfl) ?_
  refine Rg_nil ?_
  refine W_cond rfl (fun hc1 => ?_) (fun hc1 => ?_)
  · skip
    refine W_seq ?_
    refine W_region ?_
    refine Rg_run rfl o_assignc ?_
    refine Rg_nil ?_
    refine W_ret ?_
    refine ⟨_, res_tmp rfl rfl, ?_⟩
    refine ⟨congrArg Value.bool ?_, hX⟩
    all_goals (cases hc1)
  · skip
    refine W_skip ?_
    refine W_seq ?_
    refine W_region ?_
    refine Rg_run rfl (o_moveh (v := .slice _ _ _) rfl) ?_
    refine Rg_enter rfl (o_call1 Tryd.call32 rfl) (Ok.mono (play_ok _ _ _ hl.trd (fun z hz => (dl z hz).top)) ?_)
    rintro _ w4 ⟨tb17, tm17, tt17, aw17, cw17, wl17, rfl, hlb17, hlm17, hbt17, hmt17, hsw17, hTr17, hln17, x5⟩
    have z6 := Bel.size x5
    replace hX := Bel.ex hX x5
    replace dl := (fun z hz => (dl z hz).ext x5)
    replace hl := hl.ext x5
    refine Rg_run rfl (o_moveh (v := .tuple _) rfl) ?_
    refine Rg_run rfl (o_extract rfl rfl) ?_
    refine Rg_run rfl (o_extract rfl rfl) ?_
    refine Rg_run rfl (o_assignh (v := .pointer _) rfl) ?_
    refine Rg_run rfl (o_assignh (v := .slice _ _ _) rfl) ?_
    refine Rg_nil ?_
    refine W_seq ?_
    refine W_seq ?_
    refine W_region ?_
    refine Rg_run rfl (o_moveh (v := .pointer _) rfl) ?_
    refine Rg_run rfl (o_peq Tryd.underlying42 rfl rfl) ?_
    refine Rg_nil ?_
    refine W_cond_false rfl ?_
    refine W_skip ?_
    refine W_seq ?_
    refine W_region ?_
    refine Rg_run rfl (o_moveh (v := .pointer _) rfl) ?_
    refine Rg_enter rfl (o_call2 Tryd.call34 rfl rfl) (Ok.mono (tbelow_ok _ _ _ tt17 hbt17 hmt17 (by omega) hTr17.okl _ (by decide)) ?_)
    rintro v23 w7 ⟨l23, hsr23, hown23, x8⟩
    have z9 := Bel.size x8
    replace hX := Bel.ex hX x8
    replace dl := (fun z hz => (dl z hz).ext x8)
    replace hl := hl.ext x8
    replace hbt17 := hbt17.ext x8
    replace hmt17 := hmt17.ext x8
    replace hsw17 := hsw17.ext x8
    replace hown23 := hown23.mono (D' := fun g => w.heap.size ≤ g) (fun g h1 h2 => by omega)
    have e23 : l23 = wl17 := below_all hTr17 hsr23; subst l23; obtain ⟨a23, c23, hv23, hs23⟩ := hown23.sl encS_ok; subst hv23
    refine Rg_run rfl (o_assignh (v := .slice _ _ _) rfl) ?_
    refine Rg_nil ?_
    refine W_seq ?_
    refine W_region ?_
    refine Rg_run rfl o_assignc ?_
    refine Rg_nil ?_
    refine W_seq ?_
    refine W_seq ?_
    refine W_region ?_
    refine Rg_run rfl (o_moveh (v := .slice _ _ _) rfl) ?_
    refine Rg_run rfl (o_llen Tryd.underlying35 rfl) ?_
    refine Rg_run rfl o_movec ?_
    refine Rg_nil ?_
    refine W_block ?_
    refine W_for (α := Nat) [(2, 2), (6, 6), (8, 12), (26, 86)] (fun k => [(26, .int .i64 (k : Int)), (6, .int .i64 (cntC tt17 (wl17.take k) : Int))]) (fun k w' => (k ≤ wl17.length) ∧ Ext False w7 w') (fun k => wl17.length - k) 0 ⟨rfl, rfl, trivial⟩ ⟨Nat.zero_le _, Bel.refl _ _⟩ ?_
    rintro k fb12 w11 ⟨hk, hXL10⟩
    have z13 := Bel.size hXL10
    replace hX := Bel.ex hX hXL10
    replace dl := (fun z hz => (dl z hz).ext hXL10)
    replace hl := hl.ext hXL10
    replace hbt17 := hbt17.ext hXL10
    replace hmt17 := hmt17.ext hXL10
    replace hsw17 := hsw17.ext hXL10
    replace hown23 := hown23.ext hXL10
    replace hs23 := hs23.ext hXL10
    refine W_seq ?_
    refine W_region ?_
    refine Rg_run rfl (o_lss rfl rfl) ?_
    refine Rg_nil ?_
    refine W_seq ?_
    refine W_cond rfl (fun hc3 => ?_) (fun hc3 => ?_)
    · skip
      replace hc3 := of_decide_eq_true hc3
      refine W_skip ?_
      refine W_seq ?_
      refine W_block ?_
      refine W_seq ?_
      refine W_region ?_
      refine Rg_run rfl (o_iaR Tryd.underlying35 Tryd.sizeOf9 hs23 rfl rfl (by first | omega | (unfold I64; omega) | (simp; done) | (simp; omega) | (simp at *; omega))) ?_
      refine Rg_run rfl (o_ldR Tryd.isAgg9 hs23 rfl rfl (getE [] (by omega)) rfl) ?_
      refine Rg_run rfl (o_assignh (v := str _) rfl) ?_
      refine Rg_nil ?_
      refine W_seq ?_
      refine W_seq ?_
      refine W_region ?_
      have hpm := getD_mem (z := ([] : Str)) (show k < wl17.length by omega)
      have hpv := hTr17.tl.ok _ hpm
      have lp := path_len hpv
      have hpt := (hTr17.eq _).2 hpm
      have hcs := cnt_succ (t := tt17) (l := wl17) (show k < wl17.length by omega)
      have hcb := cnt_bd (t := tt17) (l := wl17.take k) hln17 (by rw [List.length_take]; have := hTr17.len; omega)
      have hcl := child_le (t := tt17) (p := wl17.getD k [])
      generalize wl17.getD k [] = p at hpm hpv lp hpt hcs hcl ⊢
      refine Rg_run rfl (o_moveh (v := str _) rfl) ?_
      refine Rg_enter rfl (o_call1 Tryd.call25 rfl) (Ok.mono (pparent_ok _ _ lp) ?_)
      rintro _ w14 ⟨rfl, x15⟩
      have z16 := Bel.size x15
      replace hX := Bel.ex hX x15
      replace hXL10 := Bel.ex hXL10 x15
      replace dl := (fun z hz => (dl z hz).ext x15)
      replace hl := hl.ext x15
      replace hbt17 := hbt17.ext x15
      replace hmt17 := hmt17.ext x15
      replace hsw17 := hsw17.ext x15
      replace hown23 := hown23.ext x15
      replace hs23 := hs23.ext x15
      refine Rg_run rfl (o_moveh (v := .tuple _) rfl) ?_
      refine Rg_run rfl (o_extract rfl rfl) ?_
      refine Rg_run rfl (o_extract rfl rfl) ?_
      refine Rg_run rfl (o_assignh (v := str _) rfl) ?_
      refine Rg_run rfl (o_assignh (v := .bool _) rfl) ?_
      refine Rg_nil ?_
      refine W_seq ?_
      refine W_region ?_
      refine (Decidable.em ((parentS p).2 = true)).elim (fun hup => ?_) (fun hup => ?_)
      · skip
        refine Rg_run rfl (o_moveh (v := .bool _) rfl) ?_
        refine Rg_run rfl (o_moveh (v := .bool _) rfl) ?_
        refine Rg_on 1 36 rfl (congrArg Value.bool hup) ?_
        refine Rg_run rfl (o_moveh (v := .pointer _) rfl) ?_
        refine Rg_on 1 36 rfl (congrArg Value.bool hup) ?_
        refine Rg_run rfl (o_moveh (v := str _) rfl) ?_
        refine Rg_on 1 36 rfl (congrArg Value.bool hup) ?_
        refine Rg_enter rfl (o_call2 Tryd.call36 rfl rfl) (Ok.mono (thas_ok _ _ _ _ hbt17 hmt17 _) ?_)
        rintro _ w17 ⟨rfl, x18⟩
        have z19 := Bel.size x18
        replace hX := Bel.ex hX x18
        replace hXL10 := Bel.ex hXL10 x18
        replace dl := (fun z hz => (dl z hz).ext x18)
        replace hl := hl.ext x18
        replace hbt17 := hbt17.ext x18
        replace hmt17 := hmt17.ext x18
        replace hsw17 := hsw17.ext x18
        replace hown23 := hown23.ext x18
        replace hs23 := hs23.ext x18
        refine Rg_on 1 36 rfl (congrArg Value.bool hup) ?_
        refine Rg_run rfl (o_not rfl) ?_
        refine Rg_on 1 36 rfl (congrArg Value.bool hup) ?_
        refine Rg_run rfl (o_moveh (v := .bool _) rfl) ?_
        refine Rg_on 6 41 rfl (congrArg Value.bool (by rw [any_iff.2 (parent_in hTr17 hpt hup)]; rfl)) ?_
        refine Rg_run rfl (o_moveh (v := .pointer _) rfl) ?_
        refine Rg_on 6 41 rfl (congrArg Value.bool (by rw [any_iff.2 (parent_in hTr17 hpt hup)]; rfl)) ?_
        refine Rg_run rfl (o_moveh (v := str _) rfl) ?_
        refine Rg_on 6 41 rfl (congrArg Value.bool (by rw [any_iff.2 (parent_in hTr17 hpt hup)]; rfl)) ?_
        refine Rg_enter rfl (o_call2 Tryd.call38 rfl rfl) (Ok.mono (tchild_ok _ _ _ tt17 hbt17 hmt17 (by omega) hTr17.okl _ parent_len) ?_)
        rintro v44 w20 ⟨l44, hsr44, hown44, x21⟩
        have z22 := Bel.size x21
        replace hX := Bel.ex hX x21
        replace hXL10 := Bel.ex hXL10 x21
        replace dl := (fun z hz => (dl z hz).ext x21)
        replace hl := hl.ext x21
        replace hbt17 := hbt17.ext x21
        replace hmt17 := hmt17.ext x21
        replace hsw17 := hsw17.ext x21
        replace hown23 := hown23.ext x21
        replace hs23 := hs23.ext x21
        replace hown44 := hown44.mono (D' := fun g => w.heap.size ≤ g) (fun g h1 h2 => by omega)
        skip; obtain ⟨a44, c44, hv44, hs44⟩ := hown44.sl encS_ok; subst hv44
        refine Rg_on 6 41 rfl (congrArg Value.bool (by rw [any_iff.2 (parent_in hTr17 hpt hup)]; rfl)) ?_
        refine Rg_run rfl (o_moveh (v := str _) rfl) ?_
        refine Rg_on 6 41 rfl (congrArg Value.bool (by rw [any_iff.2 (parent_in hTr17 hpt hup)]; rfl)) ?_
        refine Rg_enter rfl (o_call2 Tryd.call41 rfl rfl) (Ok.mono (scontains_ok (False) _ _ _ _ _ _ hs44) ?_)
        rintro _ w23 ⟨rfl, x24⟩
        have z25 := Bel.size x24
        replace hX := Bel.ex hX x24
        replace hXL10 := Bel.ex hXL10 x24
        replace dl := (fun z hz => (dl z hz).ext x24)
        replace hl := hl.ext x24
        replace hbt17 := hbt17.ext x24
        replace hmt17 := hmt17.ext x24
        replace hsw17 := hsw17.ext x24
        replace hown23 := hown23.ext x24
        replace hs23 := hs23.ext x24
        replace hown44 := hown44.ext x24
        replace hs44 := hs44.ext x24
        refine Rg_on 6 41 rfl (congrArg Value.bool (by rw [any_iff.2 (parent_in hTr17 hpt hup)]; rfl)) ?_
        refine Rg_run rfl (o_not rfl) ?_
        refine Rg_on 1 36 rfl (congrArg Value.bool hup) ?_
        refine Rg_run rfl (o_pickF (v := .bool _) (congrArg Value.bool (by rw [any_iff.2 (parent_in hTr17 hpt hup)]; rfl)) rfl) ?_
        refine Rg_run rfl (o_pickT (v := .bool _) (congrArg Value.bool hup) rfl) ?_
        refine Rg_nil ?_
        refine W_cond_false (congrArg Value.bool (by rw [any_iff.2 (hsr44.1.mem_iff.2 (child_in hTr17 hpt hup))]; rfl)) ?_
        refine W_skip ?_
        refine W_seq ?_
        refine W_region ?_
        refine Rg_run rfl (o_moveh (v := .int _ _) rfl) ?_
        refine Rg_run rfl (o_moveh (v := .pointer _) rfl) ?_
        refine Rg_run rfl (o_moveh (v := str _) rfl) ?_
        refine Rg_enter rfl (o_call2 Tryd.call38 rfl rfl) (Ok.mono (tchild_ok _ _ _ tt17 hbt17 hmt17 (by omega) hTr17.okl _ lp) ?_)
        rintro v53 w26 ⟨l53, hsr53, hown53, x27⟩
        have z28 := Bel.size x27
        replace hX := Bel.ex hX x27
        replace hXL10 := Bel.ex hXL10 x27
        replace dl := (fun z hz => (dl z hz).ext x27)
        replace hl := hl.ext x27
        replace hbt17 := hbt17.ext x27
        replace hmt17 := hmt17.ext x27
        replace hsw17 := hsw17.ext x27
        replace hown23 := hown23.ext x27
        replace hs23 := hs23.ext x27
        replace hown44 := hown44.ext x27
        replace hs44 := hs44.ext x27
        replace hown53 := hown53.mono (D' := fun g => w.heap.size ≤ g) (fun g h1 h2 => by omega)
        have hl53 := hsr53.1.length_eq
        refine Rg_run rfl (o_llenO Tryd.underlying35 rfl hown53) ?_
        refine Rg_run rfl (o_add rfl rfl (by first | omega | (unfold I64; omega) | (simp; done) | (simp; omega) | (simp at *; omega))) ?_
        refine Rg_run rfl (o_assignh (v := .int _ _) rfl) ?_
        refine Rg_nil ?_
        refine W_seq ?_
        refine W_region ?_
        refine Rg_run rfl (o_moveh (v := .pointer _) rfl) ?_
        refine Rg_run rfl (o_moveh (v := str _) rfl) ?_
        refine Rg_enter rfl (o_call2 Tryd.call38 rfl rfl) (Ok.mono (tchild_ok _ _ _ tt17 hbt17 hmt17 (by omega) hTr17.okl _ lp) ?_)
        rintro v58 w29 ⟨l58, hsr58, hown58, x30⟩
        have z31 := Bel.size x30
        replace hX := Bel.ex hX x30
        replace hXL10 := Bel.ex hXL10 x30
        replace dl := (fun z hz => (dl z hz).ext x30)
        replace hl := hl.ext x30
        replace hbt17 := hbt17.ext x30
        replace hmt17 := hmt17.ext x30
        replace hsw17 := hsw17.ext x30
        replace hown23 := hown23.ext x30
        replace hs23 := hs23.ext x30
        replace hown44 := hown44.ext x30
        replace hs44 := hs44.ext x30
        replace hown53 := hown53.ext x30
        replace hown58 := hown58.mono (D' := fun g => w.heap.size ≤ g) (fun g h1 h2 => by omega)
        refine Rg_run rfl (o_llenO Tryd.underlying35 rfl hown58) ?_
        refine Rg_run rfl (o_eql rfl rfl) ?_
        refine Rg_run rfl (o_moveh (v := .bool _) rfl) ?_
        refine Rg_may 5 61 rfl rfl rfl (fun hg => (o_moveh (v := str _) rfl)) ?_
        refine Rg_may 5 61 rfl rfl rfl (fun hg => (o_sneq (gsel (u := undef) hg) rfl)) ?_
        refine Rg_run rfl (o_and (u := undef) rfl rfl) ?_
        refine Rg_nil ?_
        refine W_cond rfl (fun hc5 => ?_) (fun hc5 => ?_)
        · skip
          refine W_seq ?_
          refine W_region ?_
          have hr := leaf_rem2 hTr17 hpt hsr58 hc5
          refine Rg_run rfl (o_moveh (v := .pointer _) rfl) ?_
          refine Rg_run rfl (o_moveh (v := str _) rfl) ?_
          refine Rg_enter rfl (o_call2 Tryd.call42 rfl rfl) (Ok.mono (trem_ok _ _ _ tt17 hbt17 hmt17 (by omega) hTr17.okl _ lp hr) ?_)
          rintro _ w32 ⟨tb68, tm68, rfl, hgb68, hlb68, hgm68, hlm68, hne68, hbt68, hmt68, x33⟩
          have z34 := Bel.size x33
          replace hX := Bel.ex hX x33
          replace hXL10 := Bel.ex hXL10 x33
          replace dl := (fun z hz => (dl z hz).ext x33)
          replace hl := hl.ext x33
          replace hbt17 := hbt17.ext x33
          replace hmt17 := hmt17.ext x33
          replace hsw17 := hsw17.ext x33
          replace hown23 := hown23.ext x33
          replace hs23 := hs23.ext x33
          replace hown44 := hown44.ext x33
          replace hs44 := hs44.ext x33
          replace hown53 := hown53.ext x33
          replace hown58 := hown58.ext x33
          refine Rg_run rfl (o_moveh (v := .tuple _) rfl) ?_
          refine Rg_run rfl (o_extract rfl rfl) ?_
          refine Rg_run rfl (o_extract rfl rfl) ?_
          refine Rg_run rfl (o_assignh (v := .pointer _) rfl) ?_
          refine Rg_run rfl (o_assignh (v := .int _ _) rfl) ?_
          refine Rg_nil ?_
          refine W_seq ?_
          refine W_region ?_
          have hdl := drop_len hTr17.nd hpt
          refine Rg_run rfl (o_moveh (v := .int _ _) rfl) ?_
          refine Rg_run rfl (o_neq rfl rfl) ?_
          refine Rg_run rfl (o_moveh (v := .bool _) rfl) ?_
          refine Rg_on 2 73 rfl rfl ?_
          refine Rg_run rfl (o_moveh (v := .pointer _) rfl) ?_
          refine Rg_on 2 73 rfl rfl ?_
          refine Rg_enter rfl (o_call1 Tryd.call33 rfl) (Ok.mono (tlen_ok _ _ _ _ hbt68 hmt68) ?_)
          rintro _ w35 ⟨rfl, x36⟩
          have z37 := Bel.size x36
          replace hX := Bel.ex hX x36
          replace hXL10 := Bel.ex hXL10 x36
          replace dl := (fun z hz => (dl z hz).ext x36)
          replace hl := hl.ext x36
          replace hbt17 := hbt17.ext x36
          replace hmt17 := hmt17.ext x36
          replace hsw17 := hsw17.ext x36
          replace hown23 := hown23.ext x36
          replace hs23 := hs23.ext x36
          replace hown44 := hown44.ext x36
          replace hs44 := hs44.ext x36
          replace hown53 := hown53.ext x36
          replace hown58 := hown58.ext x36
          replace hbt68 := hbt68.ext x36
          replace hmt68 := hmt68.ext x36
          refine Rg_on 2 73 rfl rfl ?_
          refine Rg_run rfl (o_moveh (v := .pointer _) rfl) ?_
          refine Rg_on 2 73 rfl rfl ?_
          refine Rg_enter rfl (o_call1 Tryd.call33 rfl) (Ok.mono (tlen_ok _ _ _ _ hbt17 hmt17) ?_)
          rintro _ w38 ⟨rfl, x39⟩
          have z40 := Bel.size x39
          replace hX := Bel.ex hX x39
          replace hXL10 := Bel.ex hXL10 x39
          replace dl := (fun z hz => (dl z hz).ext x39)
          replace hl := hl.ext x39
          replace hbt17 := hbt17.ext x39
          replace hmt17 := hmt17.ext x39
          replace hsw17 := hsw17.ext x39
          replace hown23 := hown23.ext x39
          replace hs23 := hs23.ext x39
          replace hown44 := hown44.ext x39
          replace hs44 := hs44.ext x39
          replace hown53 := hown53.ext x39
          replace hown58 := hown58.ext x39
          replace hbt68 := hbt68.ext x39
          replace hmt68 := hmt68.ext x39
          refine Rg_on 2 73 rfl rfl ?_
          refine Rg_run rfl (o_sub rfl rfl (by first | omega | (unfold I64; omega) | (simp; done) | (simp; omega) | (simp at *; omega))) ?_
          refine Rg_on 2 73 rfl rfl ?_
          refine Rg_run rfl (o_neq rfl rfl) ?_
          refine Rg_run rfl (o_pickF (v := .bool _) rfl rfl) ?_
          refine Rg_run rfl (o_moveh (v := .bool _) rfl) ?_
          refine Rg_on 10 81 rfl (congrArg Value.bool (by have h1 := hdl.1; have h2 := hdl.2; simp; omega)) ?_
          refine Rg_run rfl (o_moveh (v := .pointer _) rfl) ?_
          refine Rg_on 10 81 rfl (congrArg Value.bool (by have h1 := hdl.1; have h2 := hdl.2; simp; omega)) ?_
          refine Rg_run rfl (o_moveh (v := str _) rfl) ?_
          refine Rg_on 10 81 rfl (congrArg Value.bool (by have h1 := hdl.1; have h2 := hdl.2; simp; omega)) ?_
          refine Rg_enter rfl (o_call2 Tryd.call36 rfl rfl) (Ok.mono (thas_ok _ _ _ _ hbt68 hmt68 _) ?_)
          rintro _ w41 ⟨rfl, x42⟩
          have z43 := Bel.size x42
          replace hX := Bel.ex hX x42
          replace hXL10 := Bel.ex hXL10 x42
          replace dl := (fun z hz => (dl z hz).ext x42)
          replace hl := hl.ext x42
          replace hbt17 := hbt17.ext x42
          replace hmt17 := hmt17.ext x42
          replace hsw17 := hsw17.ext x42
          replace hown23 := hown23.ext x42
          replace hs23 := hs23.ext x42
          replace hown44 := hown44.ext x42
          replace hs44 := hs44.ext x42
          replace hown53 := hown53.ext x42
          replace hown58 := hown58.ext x42
          replace hbt68 := hbt68.ext x42
          replace hmt68 := hmt68.ext x42
          refine Rg_run rfl (o_pickF (v := .bool _) (congrArg Value.bool (by have h1 := hdl.1; have h2 := hdl.2; simp; omega)) rfl) ?_
          refine Rg_nil ?_
          refine W_cond_false (congrArg Value.bool (by exact drop_has)) ?_
          refine W_skip ?_
          refine W_region ?_
          refine Rg_run rfl (o_add rfl rfl (by have := hTr17.len; unfold I64; omega)) ?_
          refine Rg_run rfl (o_moveh (v := .int _ _) rfl) ?_
          refine Rg_nil ?_
          refine ⟨k + 1, ⟨?_, ?_, trivial⟩, ?_, ⟨?_, hXL10⟩, ?_⟩
          · first | rfl | (go_num) | (exact congrArg _ (by omega))
          · exact congrArg (Value.int .i64) (by omega)
          · repeat (first | exact off_refl _ _ | exact off_mix | refine off_put rfl ?_ | refine off_putN ?_ | refine off_setL rfl ?_ | refine off_mix' rfl ?_)
          · show k + 1 ≤ wl17.length; omega
          · omega
        · skip
          refine W_skip ?_
          refine W_region ?_
          refine Rg_run rfl (o_add rfl rfl (by have := hTr17.len; unfold I64; omega)) ?_
          refine Rg_run rfl (o_moveh (v := .int _ _) rfl) ?_
          refine Rg_nil ?_
          refine ⟨k + 1, ⟨?_, ?_, trivial⟩, ?_, ⟨?_, hXL10⟩, ?_⟩
          · first | rfl | (go_num) | (exact congrArg _ (by omega))
          · exact congrArg (Value.int .i64) (by omega)
          · repeat (first | exact off_refl _ _ | exact off_mix | refine off_put rfl ?_ | refine off_putN ?_ | refine off_setL rfl ?_ | refine off_mix' rfl ?_)
          · show k + 1 ≤ wl17.length; omega
          · omega
      · skip
        refine Rg_run rfl (o_moveh (v := .bool _) rfl) ?_
        refine Rg_run rfl (o_moveh (v := .bool _) rfl) ?_
        refine Rg_off 1 36 rfl rfl (congrArg Value.bool (by simpa using hup)) rfl rfl ?_
        refine Rg_off 1 36 rfl rfl (congrArg Value.bool (by simpa using hup)) rfl rfl ?_
        refine Rg_off 1 36 rfl rfl (congrArg Value.bool (by simpa using hup)) rfl rfl ?_
        refine Rg_off 1 36 rfl rfl (congrArg Value.bool (by simpa using hup)) rfl rfl ?_
        refine Rg_off 1 36 rfl rfl (congrArg Value.bool (by simpa using hup)) rfl rfl ?_
        refine Rg_offU 6 41 rfl rfl rfl rfl ?_
        refine Rg_offU 6 41 rfl rfl rfl rfl ?_
        refine Rg_offU 6 41 rfl rfl rfl rfl ?_
        refine Rg_offU 6 41 rfl rfl rfl rfl ?_
        refine Rg_offU 6 41 rfl rfl rfl rfl ?_
        refine Rg_offU 6 41 rfl rfl rfl rfl ?_
        refine Rg_off 1 36 rfl rfl (congrArg Value.bool (by simpa using hup)) rfl rfl ?_
        refine Rg_run rfl (o_pickF (v := .bool _) (congrArg Value.bool (by simpa using hup)) rfl) ?_
        refine Rg_nil ?_
        refine W_cond_false rfl ?_
        refine W_skip ?_
        refine W_seq ?_
        refine W_region ?_
        refine Rg_run rfl (o_moveh (v := .int _ _) rfl) ?_
        refine Rg_run rfl (o_moveh (v := .pointer _) rfl) ?_
        refine Rg_run rfl (o_moveh (v := str _) rfl) ?_
        refine Rg_enter rfl (o_call2 Tryd.call38 rfl rfl) (Ok.mono (tchild_ok _ _ _ tt17 hbt17 hmt17 (by omega) hTr17.okl _ lp) ?_)
        rintro v53 w44 ⟨l53, hsr53, hown53, x45⟩
        have z46 := Bel.size x45
        replace hX := Bel.ex hX x45
        replace hXL10 := Bel.ex hXL10 x45
        replace dl := (fun z hz => (dl z hz).ext x45)
        replace hl := hl.ext x45
        replace hbt17 := hbt17.ext x45
        replace hmt17 := hmt17.ext x45
        replace hsw17 := hsw17.ext x45
        replace hown23 := hown23.ext x45
        replace hs23 := hs23.ext x45
        replace hown53 := hown53.mono (D' := fun g => w.heap.size ≤ g) (fun g h1 h2 => by omega)
        have hl53 := hsr53.1.length_eq
        refine Rg_run rfl (o_llenO Tryd.underlying35 rfl hown53) ?_
        refine Rg_run rfl (o_add rfl rfl (by first | omega | (unfold I64; omega) | (simp; done) | (simp; omega) | (simp at *; omega))) ?_
        refine Rg_run rfl (o_assignh (v := .int _ _) rfl) ?_
        refine Rg_nil ?_
        refine W_seq ?_
        refine W_region ?_
        refine Rg_run rfl (o_moveh (v := .pointer _) rfl) ?_
        refine Rg_run rfl (o_moveh (v := str _) rfl) ?_
        refine Rg_enter rfl (o_call2 Tryd.call38 rfl rfl) (Ok.mono (tchild_ok _ _ _ tt17 hbt17 hmt17 (by omega) hTr17.okl _ lp) ?_)
        rintro v58 w47 ⟨l58, hsr58, hown58, x48⟩
        have z49 := Bel.size x48
        replace hX := Bel.ex hX x48
        replace hXL10 := Bel.ex hXL10 x48
        replace dl := (fun z hz => (dl z hz).ext x48)
        replace hl := hl.ext x48
        replace hbt17 := hbt17.ext x48
        replace hmt17 := hmt17.ext x48
        replace hsw17 := hsw17.ext x48
        replace hown23 := hown23.ext x48
        replace hs23 := hs23.ext x48
        replace hown53 := hown53.ext x48
        replace hown58 := hown58.mono (D' := fun g => w.heap.size ≤ g) (fun g h1 h2 => by omega)
        refine Rg_run rfl (o_llenO Tryd.underlying35 rfl hown58) ?_
        refine Rg_run rfl (o_eql rfl rfl) ?_
        refine Rg_run rfl (o_moveh (v := .bool _) rfl) ?_
        refine Rg_may 5 61 rfl rfl rfl (fun hg => (o_moveh (v := str _) rfl)) ?_
        refine Rg_may 5 61 rfl rfl rfl (fun hg => (o_sneq (gsel (u := undef) hg) rfl)) ?_
        refine Rg_run rfl (o_and (u := undef) rfl rfl) ?_
        refine Rg_nil ?_
        refine W_cond rfl (fun hc8 => ?_) (fun hc8 => ?_)
        · skip
          refine W_seq ?_
          refine W_region ?_
          have hr := leaf_rem2 hTr17 hpt hsr58 hc8
          refine Rg_run rfl (o_moveh (v := .pointer _) rfl) ?_
          refine Rg_run rfl (o_moveh (v := str _) rfl) ?_
          refine Rg_enter rfl (o_call2 Tryd.call42 rfl rfl) (Ok.mono (trem_ok _ _ _ tt17 hbt17 hmt17 (by omega) hTr17.okl _ lp hr) ?_)
          rintro _ w50 ⟨tb68, tm68, rfl, hgb68, hlb68, hgm68, hlm68, hne68, hbt68, hmt68, x51⟩
          have z52 := Bel.size x51
          replace hX := Bel.ex hX x51
          replace hXL10 := Bel.ex hXL10 x51
          replace dl := (fun z hz => (dl z hz).ext x51)
          replace hl := hl.ext x51
          replace hbt17 := hbt17.ext x51
          replace hmt17 := hmt17.ext x51
          replace hsw17 := hsw17.ext x51
          replace hown23 := hown23.ext x51
          replace hs23 := hs23.ext x51
          replace hown53 := hown53.ext x51
          replace hown58 := hown58.ext x51
          refine Rg_run rfl (o_moveh (v := .tuple _) rfl) ?_
          refine Rg_run rfl (o_extract rfl rfl) ?_
          refine Rg_run rfl (o_extract rfl rfl) ?_
          refine Rg_run rfl (o_assignh (v := .pointer _) rfl) ?_
          refine Rg_run rfl (o_assignh (v := .int _ _) rfl) ?_
          refine Rg_nil ?_
          refine W_seq ?_
          refine W_region ?_
          have hdl := drop_len hTr17.nd hpt
          refine Rg_run rfl (o_moveh (v := .int _ _) rfl) ?_
          refine Rg_run rfl (o_neq rfl rfl) ?_
          refine Rg_run rfl (o_moveh (v := .bool _) rfl) ?_
          refine Rg_on 2 73 rfl rfl ?_
          refine Rg_run rfl (o_moveh (v := .pointer _) rfl) ?_
          refine Rg_on 2 73 rfl rfl ?_
          refine Rg_enter rfl (o_call1 Tryd.call33 rfl) (Ok.mono (tlen_ok _ _ _ _ hbt68 hmt68) ?_)
          rintro _ w53 ⟨rfl, x54⟩
          have z55 := Bel.size x54
          replace hX := Bel.ex hX x54
          replace hXL10 := Bel.ex hXL10 x54
          replace dl := (fun z hz => (dl z hz).ext x54)
          replace hl := hl.ext x54
          replace hbt17 := hbt17.ext x54
          replace hmt17 := hmt17.ext x54
          replace hsw17 := hsw17.ext x54
          replace hown23 := hown23.ext x54
          replace hs23 := hs23.ext x54
          replace hown53 := hown53.ext x54
          replace hown58 := hown58.ext x54
          replace hbt68 := hbt68.ext x54
          replace hmt68 := hmt68.ext x54
          refine Rg_on 2 73 rfl rfl ?_
          refine Rg_run rfl (o_moveh (v := .pointer _) rfl) ?_
          refine Rg_on 2 73 rfl rfl ?_
          refine Rg_enter rfl (o_call1 Tryd.call33 rfl) (Ok.mono (tlen_ok _ _ _ _ hbt17 hmt17) ?_)
          rintro _ w56 ⟨rfl, x57⟩
          have z58 := Bel.size x57
          replace hX := Bel.ex hX x57
          replace hXL10 := Bel.ex hXL10 x57
          replace dl := (fun z hz => (dl z hz).ext x57)
          replace hl := hl.ext x57
          replace hbt17 := hbt17.ext x57
          replace hmt17 := hmt17.ext x57
          replace hsw17 := hsw17.ext x57
          replace hown23 := hown23.ext x57
          replace hs23 := hs23.ext x57
          replace hown53 := hown53.ext x57
          replace hown58 := hown58.ext x57
          replace hbt68 := hbt68.ext x57
          replace hmt68 := hmt68.ext x57
          refine Rg_on 2 73 rfl rfl ?_
          refine Rg_run rfl (o_sub rfl rfl (by first | omega | (unfold I64; omega) | (simp; done) | (simp; omega) | (simp at *; omega))) ?_
          refine Rg_on 2 73 rfl rfl ?_
          refine Rg_run rfl (o_neq rfl rfl) ?_
          refine Rg_run rfl (o_pickF (v := .bool _) rfl rfl) ?_
          refine Rg_run rfl (o_moveh (v := .bool _) rfl) ?_
          refine Rg_on 10 81 rfl (congrArg Value.bool (by have h1 := hdl.1; have h2 := hdl.2; simp; omega)) ?_
          refine Rg_run rfl (o_moveh (v := .pointer _) rfl) ?_
          refine Rg_on 10 81 rfl (congrArg Value.bool (by have h1 := hdl.1; have h2 := hdl.2; simp; omega)) ?_
          refine Rg_run rfl (o_moveh (v := str _) rfl) ?_
          refine Rg_on 10 81 rfl (congrArg Value.bool (by have h1 := hdl.1; have h2 := hdl.2; simp; omega)) ?_
          refine Rg_enter rfl (o_call2 Tryd.call36 rfl rfl) (Ok.mono (thas_ok _ _ _ _ hbt68 hmt68 _) ?_)
          rintro _ w59 ⟨rfl, x60⟩
          have z61 := Bel.size x60
          replace hX := Bel.ex hX x60
          replace hXL10 := Bel.ex hXL10 x60
          replace dl := (fun z hz => (dl z hz).ext x60)
          replace hl := hl.ext x60
          replace hbt17 := hbt17.ext x60
          replace hmt17 := hmt17.ext x60
          replace hsw17 := hsw17.ext x60
          replace hown23 := hown23.ext x60
          replace hs23 := hs23.ext x60
          replace hown53 := hown53.ext x60
          replace hown58 := hown58.ext x60
          replace hbt68 := hbt68.ext x60
          replace hmt68 := hmt68.ext x60
          refine Rg_run rfl (o_pickF (v := .bool _) (congrArg Value.bool (by have h1 := hdl.1; have h2 := hdl.2; simp; omega)) rfl) ?_
          refine Rg_nil ?_
          refine W_cond_false (congrArg Value.bool (by exact drop_has)) ?_
          refine W_skip ?_
          refine W_region ?_
          refine Rg_run rfl (o_add rfl rfl (by have := hTr17.len; unfold I64; omega)) ?_
          refine Rg_run rfl (o_moveh (v := .int _ _) rfl) ?_
          refine Rg_nil ?_
          refine ⟨k + 1, ⟨?_, ?_, trivial⟩, ?_, ⟨?_, hXL10⟩, ?_⟩
          · first | rfl | (go_num) | (exact congrArg _ (by omega))
          · exact congrArg (Value.int .i64) (by omega)
          · repeat (first | exact off_refl _ _ | exact off_mix | refine off_put rfl ?_ | refine off_putN ?_ | refine off_setL rfl ?_ | refine off_mix' rfl ?_)
          · show k + 1 ≤ wl17.length; omega
          · omega
        · skip
          refine W_skip ?_
          refine W_region ?_
          refine Rg_run rfl (o_add rfl rfl (by have := hTr17.len; unfold I64; omega)) ?_
          refine Rg_run rfl (o_moveh (v := .int _ _) rfl) ?_
          refine Rg_nil ?_
          refine ⟨k + 1, ⟨?_, ?_, trivial⟩, ?_, ⟨?_, hXL10⟩, ?_⟩
          · first | rfl | (go_num) | (exact congrArg _ (by omega))
          · exact congrArg (Value.int .i64) (by omega)
          · repeat (first | exact off_refl _ _ | exact off_mix | refine off_put rfl ?_ | refine off_putN ?_ | refine off_setL rfl ?_ | refine off_mix' rfl ?_)
          · show k + 1 ≤ wl17.length; omega
          · omega
    · skip
      replace hc3 := of_decide_eq_false hc3
      refine W_exit ?_
      refine exAt_hit ?_
      refine W_seq ?_
      refine W_region ?_
      refine Rg_run rfl (o_moveh (v := .int _ _) rfl) ?_
      refine Rg_run rfl (o_moveh (v := .slice _ _ _) rfl) ?_
      refine Rg_run rfl (o_llen Tryd.underlying35 rfl) ?_
      refine Rg_run rfl (o_eql rfl rfl) ?_
      refine Rg_run rfl (o_moveh (v := .bool _) rfl) ?_
      refine Rg_may 4 91 rfl rfl rfl (fun hg => (o_moveh (v := .int _ _) rfl)) ?_
      refine Rg_may 4 91 rfl rfl rfl (fun hg => (o_moveh (v := .pointer _) rfl)) ?_
      refine Rg_mayCall 4 91 rfl rfl rfl (fun hg => ⟨(o_call1 Tryd.call33 (gsel (u := undef) hg)), tlen_ok _ _ _ _ hbt17 hmt17⟩) ?_
      intro w62 x63
      have z64 := Bel.size x63
      replace hX := Bel.ex hX x63
      replace dl := (fun z hz => (dl z hz).ext x63)
      replace hl := hl.ext x63
      replace hbt17 := hbt17.ext x63
      replace hmt17 := hmt17.ext x63
      replace hsw17 := hsw17.ext x63
      replace hown23 := hown23.ext x63
      replace hs23 := hs23.ext x63
      refine Rg_may 4 91 rfl rfl rfl (fun hg => (o_eql (gsel (u := undef) hg) (gsel (u := undef) hg))) ?_
      refine Rg_run rfl (o_and (u := undef) rfl rfl) ?_
      refine Rg_run rfl (o_assignh (v := .bool _) rfl) ?_
      refine Rg_nil ?_
      refine W_ret ?_
      refine ⟨_, res_tmp rfl rfl, ?_⟩
      refine ⟨congrArg Value.bool ?_, hX⟩
      all_goals (rw [List.take_of_length_le (by omega), cnt_all hTr17, hTr17.len]; simp)

end Go.Proofs.YtnhbdlllkmnpfaaDoor
