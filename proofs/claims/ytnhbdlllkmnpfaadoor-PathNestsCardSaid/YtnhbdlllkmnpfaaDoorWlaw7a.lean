/- Walks, printed by program: each theorem says what a function of the translation returns. -/
import Derived.Test.YtnhbdlllkmnpfaaDoorWtree
import Derived.Test.YtnhbdlllkmnpfaaDoorPure7a
import Derived.Test.YtnhbdlllkmnpfaaDoorWref7f
import Derived.Test.YtnhbdlllkmnpfaaDoorWref7d
namespace Go.Proofs.YtnhbdlllkmnpfaaDoor
open Go Go.Lx Go.RowKit
set_option maxRecDepth 100000
set_option linter.unusedVariables false
set_option linter.unusedSimpArgs false
set_option linter.unnecessarySimpa false
theorem cut7_ok (β : Prop) (w : World) (s : Str) : Ok Tryd.prog 14 #[str s] w fun v w' => v = str (cut7 s) ∧ Ext β w w' := by
  refine Ok_of_W 8 Tryd.func14 rfl rfl rfl ?_
  have hX : Ext β w w := Bel.refl _ _
  refine W_seq ?_
  refine W_region ?_
  refine Rg_run rfl o_assignc ?_
  refine Rg_nil ?_
  refine W_seq ?_
  refine W_region ?_
  refine Rg_run rfl (o_moveh (v := str _) rfl) ?_
  refine Rg_run rfl (o_moveh (v := str _) rfl) ?_
  refine Rg_run rfl (o_slen Tryd.underlying9 rfl) ?_
  refine Rg_run rfl (o_minN (a := s.length) (b := 200) rfl rfl) ?_
  refine Rg_run rfl (o_sto (j := min s.length 200) Tryd.underlying9 rfl rfl (by omega)) ?_
  refine Rg_run rfl (o_assignh (v := str _) rfl) ?_
  refine Rg_nil ?_
  refine W_ret ?_
  refine ⟨_, res_tmp rfl rfl, ?_⟩
  refine ⟨congrArg str ?_, hX⟩
  all_goals (rfl)

theorem awake_ok (w : World) : Ok Tryd.prog 13 #[] w fun v w' => v = .bool (true) ∧ Ext False w w' := by
  refine Ok_of_W 73 Tryd.func13 rfl rfl rfl ?_
  have hX : Ext False w w := Bel.refl _ _
  refine W_seq ?_
  refine W_region ?_
  refine Rg_run rfl o_assignc ?_
  refine Rg_nil ?_
  refine W_seq ?_
  refine W_region ?_
  refine Rg_enter rfl (o_call2 Tryd.call15 rfl rfl) (Ok.mono (pcommon7_ok _ _ (by decide) _ (by decide)) ?_)
  rintro _ w1 ⟨rfl, x2⟩
  have z3 := Bel.size x2
  replace hX := Bel.ex hX x2
  refine Rg_run rfl (o_moveh (v := .tuple _) rfl) ?_
  refine Rg_run rfl (o_extract rfl rfl) ?_
  refine Rg_run rfl (o_extract rfl rfl) ?_
  refine Rg_run rfl (o_assignh (v := str _) rfl) ?_
  refine Rg_run rfl (o_assignh (v := .bool _) rfl) ?_
  refine Rg_nil ?_
  refine W_seq ?_
  refine W_region ?_
  refine Rg_enter rfl (o_call0 Tryd.call46) (Ok.mono (tnew_ok _) ?_)
  rintro _ w4 ⟨tb12, tm12, rfl, hgb12, hlb12, hgm12, hlm12, hne12, hbt12, hmt12, x5⟩
  have z6 := Bel.size x5
  replace hX := Bel.ex hX x5
  refine Rg_enter rfl (o_call2 Tryd.call43 rfl rfl) (Ok.mono (tadd_ok _ _ _ _ hbt12 hmt12 _ (by decide) (by decide +kernel)) ?_)
  rintro _ w7 ⟨tb13, tm13, rfl, hgb13, hlb13, hgm13, hlm13, hne13, hbt13, hmt13, x8⟩
  have z9 := Bel.size x8
  replace hX := Bel.ex hX x8
  replace hbt12 := hbt12.ext x8
  replace hmt12 := hmt12.ext x8
  refine Rg_run rfl (o_moveh (v := .tuple _) rfl) ?_
  refine Rg_run rfl (o_extract rfl rfl) ?_
  refine Rg_run rfl (o_extract rfl rfl) ?_
  refine Rg_run rfl (o_assignh (v := .pointer _) rfl) ?_
  refine Rg_run rfl (o_assignh (v := .int _ _) rfl) ?_
  refine Rg_nil ?_
  refine W_seq ?_
  refine W_seq ?_
  refine W_region ?_
  refine Rg_run rfl (o_moveh (v := .int _ _) rfl) ?_
  refine Rg_run rfl (o_neq rfl rfl) ?_
  refine Rg_nil ?_
  refine W_cond_false rfl ?_
  refine W_skip ?_
  refine W_seq ?_
  refine W_region ?_
  refine Rg_run rfl (o_moveh (v := .pointer _) rfl) ?_
  refine Rg_enter rfl (o_call2 Tryd.call43 rfl rfl) (Ok.mono (tadd_ok _ _ _ _ hbt13 hmt13 _ (by decide) (by decide +kernel)) ?_)
  rintro _ w10 ⟨tb20, tm20, rfl, hgb20, hlb20, hgm20, hlm20, hne20, hbt20, hmt20, x11⟩
  have z12 := Bel.size x11
  replace hX := Bel.ex hX x11
  replace hbt12 := hbt12.ext x11
  replace hmt12 := hmt12.ext x11
  replace hbt13 := hbt13.ext x11
  replace hmt13 := hmt13.ext x11
  refine Rg_run rfl (o_moveh (v := .tuple _) rfl) ?_
  refine Rg_run rfl (o_extract rfl rfl) ?_
  refine Rg_run rfl (o_extract rfl rfl) ?_
  refine Rg_run rfl (o_assignh (v := .pointer _) rfl) ?_
  refine Rg_run rfl (o_assignh (v := .int _ _) rfl) ?_
  refine Rg_nil ?_
  refine W_seq ?_
  refine W_seq ?_
  refine W_region ?_
  refine Rg_run rfl (o_moveh (v := .int _ _) rfl) ?_
  refine Rg_run rfl (o_neq rfl rfl) ?_
  refine Rg_nil ?_
  refine W_cond_false rfl ?_
  refine W_skip ?_
  refine W_seq ?_
  refine W_region ?_
  refine Rg_run rfl (o_moveh (v := .pointer _) rfl) ?_
  refine Rg_enter rfl (o_call2 Tryd.call42 rfl rfl) (Ok.mono (trem_no _ _ _ _ hbt20 hmt20 (by decide +kernel) (by decide +kernel) _ (by decide) (by decide +kernel)) ?_)
  rintro _ w13 ⟨rfl, x14⟩
  have z15 := Bel.size x14
  replace hX := Bel.ex hX x14
  replace hbt12 := hbt12.ext x14
  replace hmt12 := hmt12.ext x14
  replace hbt13 := hbt13.ext x14
  replace hmt13 := hmt13.ext x14
  replace hbt20 := hbt20.ext x14
  replace hmt20 := hmt20.ext x14
  refine Rg_run rfl (o_moveh (v := .tuple _) rfl) ?_
  refine Rg_run rfl (o_extract rfl rfl) ?_
  refine Rg_run rfl (o_extract rfl rfl) ?_
  refine Rg_run rfl (o_assignh (v := .pointer _) rfl) ?_
  refine Rg_run rfl (o_assignh (v := .int _ _) rfl) ?_
  refine Rg_nil ?_
  refine W_seq ?_
  refine W_region ?_
  refine Rg_enter rfl (o_call1 Tryd.call26 rfl) (Ok.mono (pvalid_ok (False) _ (by decide) _) ?_)
  rintro _ w16 ⟨rfl, x17⟩
  have z18 := Bel.size x17
  replace hX := Bel.ex hX x17
  replace hbt12 := hbt12.ext x17
  replace hmt12 := hmt12.ext x17
  replace hbt13 := hbt13.ext x17
  replace hmt13 := hmt13.ext x17
  replace hbt20 := hbt20.ext x17
  replace hmt20 := hmt20.ext x17
  refine Rg_run rfl (o_moveh (v := .bool _) rfl) ?_
  refine Rg_on 1 31 rfl (congrArg Value.bool (by decide +kernel)) ?_
  refine Rg_enter rfl (o_call1 Tryd.call26 rfl) (Ok.mono (pvalid_ok (False) _ (by decide) _) ?_)
  rintro _ w19 ⟨rfl, x20⟩
  have z21 := Bel.size x20
  replace hX := Bel.ex hX x20
  replace hbt12 := hbt12.ext x20
  replace hmt12 := hmt12.ext x20
  replace hbt13 := hbt13.ext x20
  replace hmt13 := hmt13.ext x20
  replace hbt20 := hbt20.ext x20
  replace hmt20 := hmt20.ext x20
  refine Rg_on 1 31 rfl (congrArg Value.bool (by decide +kernel)) ?_
  refine Rg_run rfl (o_not rfl) ?_
  refine Rg_run rfl (o_pickT (v := .bool _) (congrArg Value.bool (by decide +kernel)) rfl) ?_
  refine Rg_run rfl (o_moveh (v := .bool _) rfl) ?_
  refine Rg_on 5 35 rfl (congrArg Value.bool (by decide +kernel)) ?_
  refine Rg_enter rfl (o_call1 Tryd.call28 rfl) (Ok.mono (pnames_ok _ _ (by decide)) ?_)
  rintro _ w22 ⟨⟨a36, c36, rfl, hs36⟩, x23⟩
  have z24 := Bel.size x23
  replace hX := Bel.ex hX x23
  replace hbt12 := hbt12.ext x23
  replace hmt12 := hmt12.ext x23
  replace hbt13 := hbt13.ext x23
  replace hmt13 := hmt13.ext x23
  replace hbt20 := hbt20.ext x23
  replace hmt20 := hmt20.ext x23
  refine Rg_on 5 35 rfl (congrArg Value.bool (by decide +kernel)) ?_
  refine Rg_bs (vs := [str _, str _]) ([[97], [98, 46, 99]]) rfl encS_ok el_string rfl rfl ⟨rfl, ⟨rfl, trivial⟩⟩ rfl rfl rfl rfl ?_
  intro a37 w25 x26 hown37
  have z27 := Bel.size x26
  replace hX := Bel.ex hX x26
  replace hbt12 := hbt12.ext x26
  replace hmt12 := hmt12.ext x26
  replace hbt13 := hbt13.ext x26
  replace hmt13 := hmt13.ext x26
  replace hbt20 := hbt20.ext x26
  replace hmt20 := hmt20.ext x26
  replace hs36 := hs36.ext x26
  refine Rg_on 5 35 rfl (congrArg Value.bool (by decide +kernel)) ?_
  refine Rg_enter rfl (o_call2 Tryd.call27 rfl rfl) (Ok.mono (sequal_ok (False) _ _ _ _ _ _ (splitL [47, 97, 47, 98, 46, 99]) [[97], [98, 46, 99]] _ hs36 (hown37.slA encS_ok)) ?_)
  rintro _ w28 ⟨rfl, x29⟩
  have z30 := Bel.size x29
  replace hX := Bel.ex hX x29
  replace hbt12 := hbt12.ext x29
  replace hmt12 := hmt12.ext x29
  replace hbt13 := hbt13.ext x29
  replace hmt13 := hmt13.ext x29
  replace hbt20 := hbt20.ext x29
  replace hmt20 := hmt20.ext x29
  replace hs36 := hs36.ext x29
  replace hown37 := hown37.ext x29
  refine Rg_run rfl (o_pickT (v := .bool _) (congrArg Value.bool (by decide +kernel)) rfl) ?_
  refine Rg_run rfl (o_moveh (v := .bool _) rfl) ?_
  refine Rg_on 10 40 rfl (congrArg Value.bool (by decide +kernel)) ?_
  refine Rg_enter rfl (o_call2 Tryd.call16 rfl rfl) (Ok.mono (within_ok (False) _ _ (by decide) (by decide) _) ?_)
  rintro _ w31 ⟨rfl, x32⟩
  have z33 := Bel.size x32
  replace hX := Bel.ex hX x32
  replace hbt12 := hbt12.ext x32
  replace hmt12 := hmt12.ext x32
  replace hbt13 := hbt13.ext x32
  replace hmt13 := hmt13.ext x32
  replace hbt20 := hbt20.ext x32
  replace hmt20 := hmt20.ext x32
  replace hs36 := hs36.ext x32
  replace hown37 := hown37.ext x32
  refine Rg_on 10 40 rfl (congrArg Value.bool (by decide +kernel)) ?_
  refine Rg_run rfl (o_not rfl) ?_
  refine Rg_run rfl (o_pickT (v := .bool _) (congrArg Value.bool (by decide +kernel)) rfl) ?_
  refine Rg_run rfl (o_moveh (v := .bool _) rfl) ?_
  refine Rg_on 14 44 rfl (congrArg Value.bool (by decide +kernel)) ?_
  refine Rg_enter rfl (o_call2 Tryd.call16 rfl rfl) (Ok.mono (within_ok (False) _ _ (by decide) (by decide) _) ?_)
  rintro _ w34 ⟨rfl, x35⟩
  have z36 := Bel.size x35
  replace hX := Bel.ex hX x35
  replace hbt12 := hbt12.ext x35
  replace hmt12 := hmt12.ext x35
  replace hbt13 := hbt13.ext x35
  replace hmt13 := hmt13.ext x35
  replace hbt20 := hbt20.ext x35
  replace hmt20 := hmt20.ext x35
  replace hs36 := hs36.ext x35
  replace hown37 := hown37.ext x35
  refine Rg_run rfl (o_pickT (v := .bool _) (congrArg Value.bool (by decide +kernel)) rfl) ?_
  refine Rg_run rfl (o_moveh (v := .bool _) rfl) ?_
  refine Rg_on 17 47 rfl (congrArg Value.bool (by decide +kernel)) ?_
  refine Rg_run rfl (o_moveh (v := str _) rfl) ?_
  refine Rg_on 17 47 rfl (congrArg Value.bool (by decide +kernel)) ?_
  refine Rg_run rfl (o_seql rfl rfl) ?_
  refine Rg_run rfl (o_pickT (v := .bool _) (congrArg Value.bool (by decide +kernel)) rfl) ?_
  refine Rg_run rfl (o_moveh (v := .bool _) rfl) ?_
  refine Rg_on 21 51 rfl (congrArg Value.bool (by decide +kernel)) ?_
  refine Rg_run rfl (o_moveh (v := .bool _) rfl) ?_
  refine Rg_run rfl (o_pickT (v := .bool _) (congrArg Value.bool (by decide +kernel)) rfl) ?_
  refine Rg_run rfl (o_moveh (v := .bool _) rfl) ?_
  refine Rg_on 24 54 rfl (congrArg Value.bool (by decide +kernel)) ?_
  refine Rg_enter rfl (o_call2 Tryd.call21 rfl rfl) (Ok.mono (pcompare_ok (False) _ _ (by decide) (by decide) _) ?_)
  rintro _ w37 ⟨rfl, x38⟩
  have z39 := Bel.size x38
  replace hX := Bel.ex hX x38
  replace hbt12 := hbt12.ext x38
  replace hmt12 := hmt12.ext x38
  replace hbt13 := hbt13.ext x38
  replace hmt13 := hmt13.ext x38
  replace hbt20 := hbt20.ext x38
  replace hmt20 := hmt20.ext x38
  replace hs36 := hs36.ext x38
  replace hown37 := hown37.ext x38
  refine Rg_on 24 54 rfl (congrArg Value.bool (by decide +kernel)) ?_
  refine Rg_run rfl (o_eql rfl rfl) ?_
  refine Rg_run rfl (o_pickT (v := .bool _) (congrArg Value.bool (by decide +kernel)) rfl) ?_
  refine Rg_run rfl (o_moveh (v := .bool _) rfl) ?_
  refine Rg_on 28 58 rfl (congrArg Value.bool (by decide +kernel)) ?_
  refine Rg_run rfl (o_moveh (v := .pointer _) rfl) ?_
  refine Rg_on 28 58 rfl (congrArg Value.bool (by decide +kernel)) ?_
  refine Rg_enter rfl (o_call1 Tryd.call33 rfl) (Ok.mono (tlen_ok _ _ _ _ hbt20 hmt20) ?_)
  rintro _ w40 ⟨rfl, x41⟩
  have z42 := Bel.size x41
  replace hX := Bel.ex hX x41
  replace hbt12 := hbt12.ext x41
  replace hmt12 := hmt12.ext x41
  replace hbt13 := hbt13.ext x41
  replace hmt13 := hmt13.ext x41
  replace hbt20 := hbt20.ext x41
  replace hmt20 := hmt20.ext x41
  replace hs36 := hs36.ext x41
  replace hown37 := hown37.ext x41
  refine Rg_on 28 58 rfl (congrArg Value.bool (by decide +kernel)) ?_
  refine Rg_run rfl (o_eql rfl rfl) ?_
  refine Rg_run rfl (o_pickT (v := .bool _) (congrArg Value.bool (by decide +kernel)) rfl) ?_
  refine Rg_run rfl (o_moveh (v := .bool _) rfl) ?_
  refine Rg_on 33 63 rfl (congrArg Value.bool (by decide +kernel)) ?_
  refine Rg_run rfl (o_moveh (v := .pointer _) rfl) ?_
  refine Rg_on 33 63 rfl (congrArg Value.bool (by decide +kernel)) ?_
  refine Rg_enter rfl (o_call2 Tryd.call38 rfl rfl) (Ok.mono (tchild_ok _ _ _ _ hbt20 hmt20 (by decide +kernel) (by decide +kernel) _ (by decide)) ?_)
  rintro v65 w43 ⟨l65, hsr65, hown65, x44⟩
  replace hown37 := hown37.mono (D' := fun g => w.heap.size ≤ g ∧ ¬ (w40.heap.size ≤ g ∧ g < w43.heap.size)) (fun g h1 h2 => by omega)
  have z45 := Bel.size x44
  replace hX := Bel.ex hX x44
  replace hbt12 := hbt12.ext x44
  replace hmt12 := hmt12.ext x44
  replace hbt13 := hbt13.ext x44
  replace hmt13 := hmt13.ext x44
  replace hbt20 := hbt20.ext x44
  replace hmt20 := hmt20.ext x44
  replace hs36 := hs36.ext x44
  replace hown37 := hown37.ext x44
  obtain rfl : l65 = [[47, 97, 47, 98], [47, 97, 47, 99]] := aw_child hsr65; obtain ⟨a65, c65, hv65, hs65⟩ := hown65.sl encS_ok; subst hv65
  refine Rg_on 33 63 rfl (congrArg Value.bool (by decide +kernel)) ?_
  refine Rg_bs (vs := [str _, str _]) ([[47, 97, 47, 98], [47, 97, 47, 99]]) rfl encS_ok el_string rfl rfl ⟨rfl, ⟨rfl, trivial⟩⟩ rfl rfl rfl rfl ?_
  intro a66 w46 x47 hown66
  have z48 := Bel.size x47
  replace hX := Bel.ex hX x47
  replace hbt12 := hbt12.ext x47
  replace hmt12 := hmt12.ext x47
  replace hbt13 := hbt13.ext x47
  replace hmt13 := hmt13.ext x47
  replace hbt20 := hbt20.ext x47
  replace hmt20 := hmt20.ext x47
  replace hs36 := hs36.ext x47
  replace hown37 := hown37.ext x47
  replace hs65 := hs65.ext x47
  refine Rg_on 33 63 rfl (congrArg Value.bool (by decide +kernel)) ?_
  refine Rg_enter rfl (o_call2 Tryd.call27 rfl rfl) (Ok.mono (sequal_ok (False) _ _ _ _ _ _ [[47, 97, 47, 98], [47, 97, 47, 99]] [[47, 97, 47, 98], [47, 97, 47, 99]] _ hs65 (hown66.slA encS_ok)) ?_)
  rintro _ w49 ⟨rfl, x50⟩
  have z51 := Bel.size x50
  replace hX := Bel.ex hX x50
  replace hbt12 := hbt12.ext x50
  replace hmt12 := hmt12.ext x50
  replace hbt13 := hbt13.ext x50
  replace hmt13 := hmt13.ext x50
  replace hbt20 := hbt20.ext x50
  replace hmt20 := hmt20.ext x50
  replace hs36 := hs36.ext x50
  replace hown37 := hown37.ext x50
  replace hs65 := hs65.ext x50
  replace hown66 := hown66.ext x50
  refine Rg_run rfl (o_pickT (v := .bool _) (congrArg Value.bool (by decide +kernel)) rfl) ?_
  refine Rg_run rfl (o_moveh (v := .bool _) rfl) ?_
  refine Rg_on 39 69 rfl (congrArg Value.bool (by decide +kernel)) ?_
  refine Rg_run rfl (o_moveh (v := .int _ _) rfl) ?_
  refine Rg_on 39 69 rfl (congrArg Value.bool (by decide +kernel)) ?_
  refine Rg_run rfl (o_eql rfl rfl) ?_
  refine Rg_run rfl (o_pickT (v := .bool _) (congrArg Value.bool (by decide +kernel)) rfl) ?_
  refine Rg_run rfl (o_assignh (v := .bool _) rfl) ?_
  refine Rg_nil ?_
  refine W_ret ?_
  refine ⟨_, res_tmp rfl rfl, ?_⟩
  refine ⟨congrArg Value.bool ?_, hX⟩
  all_goals (first | rfl | decide +kernel | (exact absurd (by assumption) (by simp)) | simp_all)

end Go.Proofs.YtnhbdlllkmnpfaaDoor
