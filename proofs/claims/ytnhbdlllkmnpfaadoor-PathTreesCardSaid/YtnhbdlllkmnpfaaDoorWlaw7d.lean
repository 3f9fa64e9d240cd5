/- Walks, printed by program: each theorem says what a function of the translation returns. -/
import Derived.Test.YtnhbdlllkmnpfaaDoorWlaw7b
namespace Go.Proofs.YtnhbdlllkmnpfaaDoor
open Go Go.Lx Go.RowKit
set_option maxRecDepth 100000
set_option linter.unusedVariables false
set_option linter.unusedSimpArgs false
set_option linter.unnecessarySimpa false
theorem sclone_ok (w : World) (vl : Value) (l : List Str) (hl : Rd encS 1 (Lt w.heap.size) w vl l) (nl : l.length ≤ 1000000) : Ok Tryd.prog 35 #[vl] w fun v w' => Own encS 1 9 (Fsh w w') w' v (l) ∧ Ext False w w' := by
  obtain ⟨al, cl, rfl, hl⟩ := hl; have ml := hl.len
  refine Ok_of_W 8 Tryd.func35 rfl rfl rfl ?_
  have hX : Ext False w w := Bel.refl _ _
  refine W_seq ?_
  refine W_region ?_
  refine Rg_run rfl o_assignc ?_
  refine Rg_nil ?_
  refine W_seq ?_
  refine W_seq ?_
  refine W_region ?_
  refine Rg_run rfl (o_moveh (v := .slice _ _ _) rfl) ?_
  refine Rg_run rfl (o_lnil Tryd.underlying35 rfl) ?_
  refine Rg_nil ?_
  refine W_cond rfl (fun hc1 => ?_) (fun hc1 => ?_)
  · skip
    have hnl := sl_none hl hc1; subst hnl
    refine W_seq ?_
    refine W_region ?_
    refine Rg_run rfl o_assignc ?_
    refine Rg_nil ?_
    refine W_ret ?_
    refine ⟨_, res_tmp rfl rfl, ?_⟩
    exact ⟨Own.nil _ _, hX⟩
  · skip
    refine W_skip ?_
    refine W_seq ?_
    refine W_region ?_
    refine Rg_bs (vs := []) (([] : List Str)) rfl encS_ok el_string rfl rfl trivial rfl rfl rfl rfl ?_
    intro a5 w1 x2 hown5
    have z3 := Bel.size x2
    replace hX := Bel.ex hX x2
    replace hl := hl.ext x2
    replace hown5 := hown5.mono (D' := fun g => w.heap.size ≤ g) (fun g h1 h2 => by omega)
    refine Rg_run rfl (o_moveh (v := .slice _ _ _) rfl) ?_
    refine Rg_app rfl encS_ok el_string rfl rfl hown5 hl rfl (by simp; omega) (fun g h => by omega) ?_
    intro v7 w4 x5 hown5
    have z6 := Bel.size x5
    replace hX := Bel.out hX x5 (fun g h1 h2 => by first | exact h2 | omega)
    replace hl := hl.keep x5 (fun g h1 h2 h3 => by omega)
    refine Rg_run rfl (o_assignh (v := v7) rfl) ?_
    refine Rg_nil ?_
    refine W_ret ?_
    refine ⟨_, res_tmp rfl rfl, ?_⟩
    rw [List.nil_append] at hown5; exact ⟨hown5.mono (fun g h1 h2 => by omega), hX⟩

theorem law_PathJoins (w : World) (vl : Value) (l : List Str) (hl : Rd encS 1 (Lt w.heap.size) w vl l) : Ok Tryd.prog 11 #[vl] w fun v w' => v = .bool (true) ∧ Ext False w w' := by
  obtain ⟨al, cl, rfl, hl⟩ := hl; have ml := hl.len
  refine Ok_of_W 61 Tryd.func11 rfl rfl rfl ?_
  have hX : Ext False w w := Bel.refl _ _
  refine W_seq ?_
  refine W_region ?_
  refine Rg_run rfl o_assignc ?_
  refine Rg_nil ?_
  refine W_seq ?_
  refine W_seq ?_
  refine W_region ?_
  refine Rg_enter rfl (o_call0 Tryd.call13) (Ok.mono (awake_ok _) ?_)
  rintro _ w1 ⟨rfl, x2⟩
  have z3 := Bel.size x2
  replace hX := Bel.ex hX x2
  replace hl := hl.ext x2
  refine Rg_run rfl (o_not rfl) ?_
  refine Rg_nil ?_
  refine W_cond rfl (fun hc1 => ?_) (fun hc1 => ?_)
  · skip
    refine W_seq ?_
    refine W_region ?_
    refine Rg_run rfl o_assignc ?_
    refine Rg_nil ?_
    refine W_ret ?_
    refine ⟨_, res_tmp rfl rfl, ?_⟩
    refine ⟨congrArg Value.bool ?_, hX⟩
    all_goals (cases hc1)
  · skip
    refine W_skip ?_
    refine W_seq ?_
    refine W_region ?_
    refine Rg_run rfl o_assignc ?_
    refine Rg_nil ?_
    refine W_seq ?_
    refine W_seq ?_
    refine W_region ?_
    refine Rg_run rfl (o_moveh (v := .slice _ _ _) rfl) ?_
    refine Rg_run rfl (o_moveh (v := .slice _ _ _) rfl) ?_
    refine Rg_run rfl (o_llen Tryd.underlying35 rfl) ?_
    refine Rg_run rfl (o_minN (a := l.length) (b := 12) rfl rfl) ?_
    refine Rg_run rfl (o_slto (j := (l.take 12).length) Tryd.underlying35 Tryd.sizeOf9 rfl (congrArg (Value.int .i64) (by rw [List.length_take]; omega)) (by have := hl.le; rw [List.length_take]; omega)) ?_
    have hlt : Sl encS 1 (Lt w.heap.size) w1 al cl (l.take 12) := hl.take 12
    refine Rg_run rfl (o_llen Tryd.underlying35 rfl) ?_
    refine Rg_run rfl o_movec ?_
    refine Rg_nil ?_
    refine W_block ?_
    refine W_for (α := Nat × Value) [(3, 3), (5, 5), (17, 29)] (fun q => [(17, .int .i64 (q.1 : Int)), (3, q.2)]) (fun q w' => (q.1 ≤ (l.take 12).length) ∧ Bel False (fun g => w1.heap.size ≤ g) w1 w' ∧ (Own encS 1 9 (fun g => w1.heap.size ≤ g) w' q.2 (((l.take 12).take q.1).map cut40))) (fun q => (l.take 12).length - q.1) (0, .slice none 0 0) ⟨rfl, rfl, trivial⟩ ⟨Nat.zero_le _, Bel.refl _ _, Own.nil _ _⟩ ?_
    rintro ⟨k, u⟩ fb6 w5 ⟨hk, hXL4, hown⟩
    dsimp only at *
    have z7 := Bel.size hXL4
    replace hX := Bel.out hX hXL4 (fun g h1 h2 => by first | exact h2 | omega)
    replace hl := hl.keep hXL4 (fun g h1 h2 h3 => by omega)
    replace hlt := hlt.keep hXL4 (fun g h1 h2 h3 => by omega)
    have h12 : (l.take 12).length ≤ 12 := by rw [List.length_take]; omega
    refine W_seq ?_
    refine W_region ?_
    refine Rg_run rfl (o_lss rfl rfl) ?_
    refine Rg_nil ?_
    refine W_seq ?_
    refine W_cond rfl (fun hc2 => ?_) (fun hc2 => ?_)
    · skip
      replace hc2 := of_decide_eq_true hc2
      refine W_skip ?_
      refine W_seq ?_
      refine W_block ?_
      refine W_seq ?_
      refine W_region ?_
      refine Rg_run rfl (o_iaR Tryd.underlying35 Tryd.sizeOf9 hlt rfl rfl (by first | omega | (unfold I64; omega) | (simp; done) | (simp; omega) | (simp at *; omega))) ?_
      refine Rg_run rfl (o_ldR Tryd.isAgg9 hlt rfl rfl (getE [] (by omega)) rfl) ?_
      refine Rg_run rfl (o_assignh (v := str _) rfl) ?_
      refine Rg_nil ?_
      refine W_region ?_
      refine Rg_run rfl (o_moveh (v := u) rfl) ?_
      refine Rg_run rfl (o_moveh (v := str _) rfl) ?_
      refine Rg_run rfl (o_moveh (v := str _) rfl) ?_
      refine Rg_run rfl (o_slen Tryd.underlying9 rfl) ?_
      refine Rg_run rfl (o_minN (a := ((l.take 12).getD k []).length) (b := 40) rfl rfl) ?_
      refine Rg_run rfl (o_sto (j := min ((l.take 12).getD k []).length 40) Tryd.underlying9 rfl rfl (by omega)) ?_
      refine Rg_bs (vs := [str _]) ([cut40 ((l.take 12).getD k [])]) rfl encS_ok el_string rfl rfl ⟨rfl, trivial⟩ rfl rfl rfl rfl ?_
      intro a27 w8 x9 hown27
      have z10 := Bel.size x9
      replace hX := Bel.ex hX x9
      replace hXL4 := Bel.ex hXL4 x9
      replace hl := hl.ext x9
      replace hlt := hlt.ext x9
      replace hown := hown.ext x9
      replace hown27 := hown27.mono (D' := fun g => w1.heap.size ≤ g) (fun g h1 h2 => by omega)
      refine Rg_app rfl encS_ok el_string rfl rfl hown (hown27.slA encS_ok) rfl (by simp; omega) (fun g h => by omega) ?_
      intro v28 w11 x12 hown
      have z13 := Bel.size x12
      replace hX := Bel.out hX x12 (fun g h1 h2 => by first | exact h2 | omega)
      replace hXL4 := Bel.out hXL4 x12 (fun g h1 h2 => by first | exact h2 | omega)
      replace hl := hl.keep x12 (fun g h1 h2 h3 => by omega)
      replace hlt := hlt.keep x12 (fun g h1 h2 h3 => by omega)
      refine Rg_run rfl (o_assignh (v := v28) rfl) ?_
      refine Rg_nil ?_
      refine W_region ?_
      refine Rg_run rfl (o_add rfl rfl (by first | omega | (unfold I64; omega) | (simp; done) | (simp; omega) | (simp at *; omega))) ?_
      refine Rg_run rfl (o_moveh (v := .int _ _) rfl) ?_
      refine Rg_nil ?_
      refine ⟨(k + 1, v28), ⟨?_, ?_, trivial⟩, ?_, ⟨?_, hXL4, ?_⟩, ?_⟩
      · first | rfl | (go_num) | (exact congrArg _ (by omega))
      · first | rfl | (go_num) | (exact congrArg _ (by omega))
      · repeat (first | exact off_refl _ _ | exact off_mix | refine off_put rfl ?_ | refine off_putN ?_ | refine off_setL rfl ?_ | refine off_mix' rfl ?_)
      · show k + 1 ≤ (l.take 12).length; omega
      · show Own _ _ _ _ _ _ (((l.take 12).take (k + 1)).map cut40); rw [takeM_succ (by omega)]; exact hown
      · show (l.take 12).length - (k + 1) < (l.take 12).length - k; omega
    · skip
      replace hc2 := of_decide_eq_false hc2; rw [List.take_of_length_le (by omega)] at hown; change Own _ _ _ _ _ _ (joinX l) at hown
      refine W_exit ?_
      refine exAt_hit ?_
      refine W_seq ?_
      refine W_region ?_
      obtain ⟨aX, cX, hvX, hsX⟩ := hown.sl encS_ok
      subst hvX
      refine Rg_run rfl (o_moveh (v := .slice _ _ _) rfl) ?_
      refine Rg_enter rfl (o_call1 Tryd.call35 rfl) (Ok.mono (sclone_ok _ _ _ hsX.trd (by have := joinX_len l; omega)) ?_)
      rintro v32 w14 ⟨hown32, x15⟩
      have z16 := Bel.size x15
      replace hX := Bel.ex hX x15
      replace hl := hl.ext x15
      replace hlt := hlt.ext x15
      replace hsX := hsX.ext x15
      refine Rg_enter rfl (o_call1 Tryd.call47 rfl) (Ok.mono (pjoinE_ok _ _ _ (hown32.trd encS_ok) (joinX_len l) (joinX_ok l)) ?_)
      rintro _ w17 ⟨rfl, x18⟩
      have z19 := Bel.size x18
      replace hX := Bel.ex hX x18
      replace hl := hl.ext x18
      replace hlt := hlt.ext x18
      replace hsX := hsX.ext x18
      replace hown32 := hown32.ext x18
      refine Rg_run rfl (o_moveh (v := .tuple _) rfl) ?_
      refine Rg_run rfl (o_extract rfl rfl) ?_
      refine Rg_run rfl (o_extract rfl rfl) ?_
      refine Rg_run rfl (o_assignh (v := str _) rfl) ?_
      refine Rg_run rfl (o_assignh (v := .int _ _) rfl) ?_
      refine Rg_nil ?_
      refine W_seq ?_
      refine W_seq ?_
      refine W_region ?_
      refine Rg_run rfl (o_moveh (v := .slice _ _ _) rfl) ?_
      refine Rg_enter rfl (o_call1 Tryd.call48 rfl) (Ok.mono (r7join_ok (False) _ _ _ hsX.trd (joinX_len l) (joinX_ok l)) ?_)
      rintro _ w20 ⟨rfl, x21⟩
      have z22 := Bel.size x21
      replace hX := Bel.ex hX x21
      replace hl := hl.ext x21
      replace hlt := hlt.ext x21
      replace hsX := hsX.ext x21
      replace hown32 := hown32.ext x21
      refine Rg_run rfl (o_assignh (v := .int _ _) rfl) ?_
      refine Rg_nil ?_
      refine W_seq ?_
      refine W_region ?_
      refine Rg_run rfl (o_moveh (v := .int _ _) rfl) ?_
      refine Rg_run rfl (o_neq rfl rfl) ?_
      refine Rg_nil ?_
      refine W_cond rfl (fun hc3 => ?_) (fun hc3 => ?_)
      · skip
        refine W_seq ?_
        refine W_region ?_
        refine Rg_run rfl (o_moveh (v := .int _ _) rfl) ?_
        refine Rg_run rfl (o_moveh (v := .int _ _) rfl) ?_
        refine Rg_run rfl (o_eql rfl rfl) ?_
        refine Rg_run rfl (o_moveh (v := .bool _) rfl) ?_
        refine Rg_may 3 43 rfl rfl rfl (fun hg => (o_moveh (v := str _) rfl)) ?_
        refine Rg_may 3 43 rfl rfl rfl (fun hg => (o_seql (gsel (u := undef) hg) rfl)) ?_
        refine Rg_run rfl (o_and (u := undef) rfl rfl) ?_
        refine Rg_run rfl (o_assignh (v := .bool _) rfl) ?_
        refine Rg_nil ?_
        refine W_ret ?_
        refine ⟨_, res_tmp rfl rfl, ?_⟩
        refine ⟨congrArg Value.bool ?_, hX⟩
        all_goals (rw [joinE_err (by simpa using hc3)]; simp)
      · skip
        refine W_skip ?_
        refine W_seq ?_
        refine W_region ?_
        refine Rg_run rfl (o_moveh (v := .int _ _) rfl) ?_
        refine Rg_run rfl (o_eql rfl rfl) ?_
        refine Rg_run rfl (o_moveh (v := .bool _) rfl) ?_
        refine Rg_may 2 49 rfl rfl rfl (fun hg => (o_moveh (v := str _) rfl)) ?_
        refine Rg_may 2 49 rfl rfl rfl (fun hg => (o_moveh (v := .slice _ _ _) rfl)) ?_
        refine Rg_mayCall 2 49 rfl rfl rfl (fun hg => ⟨(o_call1 Tryd.call24 (gsel (u := undef) hg)), r7of_ok (False) _ _ _ hsX.trd (by have := joinX_len l; omega) (fun p hp => by have := joinX_ok l p hp; omega) (by have := joinX_jlen l; omega)⟩) ?_
        intro w23 x24
        have z25 := Bel.size x24
        replace hX := Bel.ex hX x24
        replace hl := hl.ext x24
        replace hlt := hlt.ext x24
        replace hsX := hsX.ext x24
        replace hown32 := hown32.ext x24
        refine Rg_may 2 49 rfl rfl rfl (fun hg => (o_seql (gsel (u := undef) hg) (gsel (u := undef) hg))) ?_
        refine Rg_run rfl (o_and (u := undef) rfl rfl) ?_
        refine Rg_run rfl (o_moveh (v := .bool _) rfl) ?_
        refine Rg_may 8 55 rfl rfl rfl (fun hg => (o_moveh (v := str _) rfl)) ?_
        refine Rg_split 55 rfl (fun hs26 => ?_) (fun hs26 => ?_)
        · skip
          refine Rg_on 8 55 rfl (congrArg Value.bool hs26) ?_
          refine Rg_enter rfl (o_call1 Tryd.call28 (gsel (u := undef) (by rw [hs26]; rfl))) (Ok.mono (pnames_ok _ _ (joinE_len (joinX_jlen l))) ?_)
          rintro _ w27 ⟨⟨a57, c57, rfl, hs57⟩, x28⟩
          replace hown32 := hown32.mono (D' := fun g => w1.heap.size ≤ g ∧ ¬ (w23.heap.size ≤ g ∧ g < w27.heap.size)) (fun g h1 h2 => by omega)
          have z29 := Bel.size x28
          replace hX := Bel.ex hX x28
          replace hl := hl.ext x28
          replace hlt := hlt.ext x28
          replace hsX := hsX.ext x28
          replace hown32 := hown32.ext x28
          refine Rg_on 8 55 rfl (congrArg Value.bool hs26) ?_
          refine Rg_run rfl (o_moveh (v := .slice _ _ _) rfl) ?_
          refine Rg_on 8 55 rfl (congrArg Value.bool hs26) ?_
          refine Rg_enter rfl (o_call2 Tryd.call27 rfl rfl) (Ok.mono (sequal_ok (False) _ _ _ _ _ _ _ _ _ hs57 hsX) ?_)
          rintro _ w30 ⟨rfl, x31⟩
          have z32 := Bel.size x31
          replace hX := Bel.ex hX x31
          replace hl := hl.ext x31
          replace hlt := hlt.ext x31
          replace hsX := hsX.ext x31
          replace hown32 := hown32.ext x31
          replace hs57 := hs57.ext x31
          refine Rg_run rfl (o_pickT (v := .bool _) (congrArg Value.bool hs26) rfl) ?_
          refine Rg_run rfl (o_assignh (v := .bool _) rfl) ?_
          refine Rg_nil ?_
          refine W_ret ?_
          refine ⟨_, res_tmp rfl rfl, ?_⟩
          refine ⟨congrArg Value.bool ?_, hX⟩
          all_goals
            obtain ⟨e1, e2⟩ := joinE_ok (l := joinX l) (by simpa using hc3)
            rw [e1]; simp [e2]
        · skip
          refine Rg_off 8 55 rfl rfl (congrArg Value.bool hs26) rfl rfl ?_
          refine Rg_off 8 55 rfl rfl (congrArg Value.bool hs26) rfl rfl ?_
          refine Rg_off 8 55 rfl rfl (congrArg Value.bool hs26) rfl rfl ?_
          refine Rg_run rfl (o_pickF (v := .bool _) (congrArg Value.bool hs26) rfl) ?_
          refine Rg_run rfl (o_assignh (v := .bool _) rfl) ?_
          refine Rg_nil ?_
          refine W_ret ?_
          refine ⟨_, res_tmp rfl rfl, ?_⟩
          refine ⟨congrArg Value.bool ?_, hX⟩
          all_goals
            obtain ⟨e1, e2⟩ := joinE_ok (l := joinX l) (by simpa using hc3)
            rw [e1] at hs26; simp at hs26

end Go.Proofs.YtnhbdlllkmnpfaaDoor
