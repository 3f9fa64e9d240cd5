/- Walks, printed by program: each theorem says what a function of the translation returns. -/
import Derived.Test.YtnhbdlllkmnpfaaDoorWpath2
import Derived.Test.YtnhbdlllkmnpfaaDoorPure7
import Derived.Test.YtnhbdlllkmnpfaaDoorDrawC
import Derived.Test.YtnhbdlllkmnpfaaDoorMap
namespace Go.Proofs.YtnhbdlllkmnpfaaDoor
open Go Go.Lx Go.RowKit
set_option maxRecDepth 100000
set_option linter.unusedVariables false
set_option linter.unusedSimpArgs false
set_option linter.unnecessarySimpa false
theorem pjoinK_ok (a : Option Addr) (c : Nat) (D : Nat → Prop) (p : Str) (k : Nat) (w : World) (hs : Sl encS 1 D w a c (splitL p)) (hk : k ≤ (splitL p).length) : Ok Tryd.prog 55 #[.slice a k c] w fun v w' => v = str (joinP ((splitL p).take k)) ∧ Ext False w w' := by
  have h8 := splitL_len p
  have h := pjoin_ok a c D ((splitL p).take k) w (hs.take k) (by rw [List.length_take]; omega) (by have := anc_jlen (p := p) k; omega)
  rwa [List.length_take, Nat.min_eq_left hk] at h

theorem pnames_ok (w : World) (p : Str) (hp : p.length ≤ 1000000) : Ok Tryd.prog 28 #[str p] w fun v w' => Rd encS 1 (Fsh w w') w' v (splitL p) ∧ Ext False w w' := by
  refine Ok_of_W 11 Tryd.func28 rfl rfl rfl ?_
  have hX : Ext False w w := Bel.refl _ _
  refine W_seq ?_
  refine W_region ?_
  refine Rg_run rfl o_assignc ?_
  refine Rg_nil ?_
  refine W_seq ?_
  refine W_region ?_
  refine Rg_run rfl (o_moveh (v := str _) rfl) ?_
  refine Rg_enter rfl (o_call1 Tryd.call54 rfl) (Ok.mono (split_ok (False) _ (by first | assumption | omega | (simp; done) | (simp; omega) | (simp at *; omega)) _) ?_)
  rintro _ w1 ⟨a7, c7, rfl, hs7, x2⟩
  replace hX := Bel.ex hX x2
  refine Rg_run rfl (o_moveh (v := .tuple _) rfl) ?_
  refine Rg_run rfl (o_extract rfl rfl) ?_
  refine Rg_run rfl (o_extract rfl rfl) ?_
  refine Rg_run rfl (o_assignh (v := .slice _ _ _) rfl) ?_
  refine Rg_run rfl (o_assignh (v := .bool _) rfl) ?_
  refine Rg_nil ?_
  refine W_seq ?_
  refine W_region ?_
  refine Rg_run rfl (o_moveh (v := .slice _ _ _) rfl) ?_
  refine Rg_run rfl (o_assignh (v := .slice _ _ _) rfl) ?_
  refine Rg_nil ?_
  refine W_ret ?_
  refine ⟨_, res_tmp rfl rfl, ?_⟩
  exact ⟨⟨_, _, rfl, hs7⟩, hX⟩

theorem pparent_ok (w : World) (p : Str) (hp : p.length ≤ 1000000) : Ok Tryd.prog 25 #[str p] w fun v w' => v = .tuple #[str (parentS p).1, .bool (parentS p).2] ∧ Ext False w w' := by
  refine Ok_of_W 24 Tryd.func25 rfl rfl rfl ?_
  have hX : Ext False w w := Bel.refl _ _
  refine W_seq ?_
  refine W_region ?_
  refine Rg_run rfl o_assignc ?_
  refine Rg_run rfl o_assignc ?_
  refine Rg_nil ?_
  refine W_seq ?_
  refine W_region ?_
  refine Rg_run rfl (o_moveh (v := str _) rfl) ?_
  refine Rg_enter rfl (o_call1 Tryd.call54 rfl) (Ok.mono (split_ok (False) _ (by first | assumption | omega | (simp; done) | (simp; omega) | (simp at *; omega)) _) ?_)
  rintro _ w1 ⟨a8, c8, rfl, hs8, x2⟩
  replace hX := Bel.ex hX x2
  refine Rg_run rfl (o_moveh (v := .tuple _) rfl) ?_
  refine Rg_run rfl (o_extract rfl rfl) ?_
  refine Rg_run rfl (o_extract rfl rfl) ?_
  refine Rg_run rfl (o_assignh (v := .slice _ _ _) rfl) ?_
  refine Rg_run rfl (o_assignh (v := .bool _) rfl) ?_
  refine Rg_nil ?_
  refine W_seq ?_
  refine W_seq ?_
  refine W_region ?_
  refine Rg_run rfl (o_moveh (v := .bool _) rfl) ?_
  refine Rg_run rfl (o_not rfl) ?_
  refine Rg_run rfl (o_moveh (v := .bool _) rfl) ?_
  refine Rg_may 2 13 rfl rfl rfl (fun hg => (o_moveh (v := .slice _ _ _) rfl)) ?_
  refine Rg_may 2 13 rfl rfl rfl (fun hg => (o_llen Tryd.underlying35 (gsel (u := undef) hg))) ?_
  refine Rg_may 2 13 rfl rfl rfl (fun hg => (o_eql (gsel (u := undef) hg) rfl)) ?_
  refine Rg_run rfl (o_or (u := undef) rfl rfl) ?_
  refine Rg_nil ?_
  refine W_cond rfl (fun hc1 => ?_) (fun hc1 => ?_)
  · skip
    refine W_seq ?_
    refine W_region ?_
    refine Rg_run rfl o_assignc ?_
    refine Rg_run rfl o_assignc ?_
    refine Rg_nil ?_
    refine W_ret ?_
    refine ⟨_, res_tmp2 rfl rfl rfl, ?_⟩
    exact ⟨by rw [parent_a hc1]; rfl, hX⟩
  · skip
    have hne := parent_no hc1
    refine W_skip ?_
    refine W_seq ?_
    refine W_region ?_
    refine Rg_run rfl (o_moveh (v := .slice _ _ _) rfl) ?_
    refine Rg_run rfl (o_moveh (v := .slice _ _ _) rfl) ?_
    refine Rg_run rfl (o_llen Tryd.underlying35 rfl) ?_
    refine Rg_run rfl (o_sub rfl rfl (by have := splitL_len p; unfold I64; omega)) ?_
    refine Rg_run rfl (o_slto (j := (splitL p).length - 1) Tryd.underlying35 Tryd.sizeOf9 rfl (congrArg (Value.int .i64) (by omega)) (by have := hs8.le; omega)) ?_
    refine Rg_enter rfl (o_call1 Tryd.call55 rfl) (Ok.mono (pjoinK_ok _ _ _ p _ _ hs8 (by omega)) ?_)
    rintro _ w3 ⟨rfl, x4⟩
    replace hX := Bel.ex hX x4
    replace hs8 := hs8.ext x4
    refine Rg_run rfl (o_assignh (v := str _) rfl) ?_
    refine Rg_run rfl o_assignc ?_
    refine Rg_nil ?_
    refine W_ret ?_
    refine ⟨_, res_tmp2 rfl rfl rfl, ?_⟩
    exact ⟨by rw [parent_b hc1]; rfl, hX⟩

theorem pcommon7_ok (w : World) (p : Str) (hp : p.length ≤ 1000000) (q : Str) (hq : q.length ≤ 1000000) : Ok Tryd.prog 15 #[str p, str q] w fun v w' => v = .tuple #[str (commonP p q), .bool (splitOk p && splitOk q)] ∧ Ext False w w' := by
  refine Ok_of_W 32 Tryd.func15 rfl rfl rfl ?_
  have hX : Ext False w w := Bel.refl _ _
  refine W_seq ?_
  refine W_region ?_
  refine Rg_run rfl o_assignc ?_
  refine Rg_run rfl o_assignc ?_
  refine Rg_nil ?_
  refine W_seq ?_
  refine W_region ?_
  refine Rg_run rfl (o_moveh (v := str _) rfl) ?_
  refine Rg_enter rfl (o_call1 Tryd.call54 rfl) (Ok.mono (split_ok (False) _ (by first | assumption | omega | (simp; done) | (simp; omega) | (simp at *; omega)) _) ?_)
  rintro _ w1 ⟨a12, c12, rfl, hs12, x2⟩
  replace hX := Bel.ex hX x2
  refine Rg_run rfl (o_moveh (v := .tuple _) rfl) ?_
  refine Rg_run rfl (o_extract rfl rfl) ?_
  refine Rg_run rfl (o_extract rfl rfl) ?_
  refine Rg_run rfl (o_assignh (v := .slice _ _ _) rfl) ?_
  refine Rg_run rfl (o_assignh (v := .bool _) rfl) ?_
  refine Rg_nil ?_
  refine W_seq ?_
  refine W_region ?_
  refine Rg_run rfl (o_moveh (v := str _) rfl) ?_
  refine Rg_enter rfl (o_call1 Tryd.call54 rfl) (Ok.mono (split_ok (False) _ (by first | assumption | omega | (simp; done) | (simp; omega) | (simp at *; omega)) _) ?_)
  rintro _ w3 ⟨a17, c17, rfl, hs17, x4⟩
  replace hX := Bel.ex hX x4
  replace hs12 := hs12.ext x4
  refine Rg_run rfl (o_moveh (v := .tuple _) rfl) ?_
  refine Rg_run rfl (o_extract rfl rfl) ?_
  refine Rg_run rfl (o_extract rfl rfl) ?_
  refine Rg_run rfl (o_assignh (v := .slice _ _ _) rfl) ?_
  refine Rg_run rfl (o_assignh (v := .bool _) rfl) ?_
  refine Rg_nil ?_
  refine W_seq ?_
  refine W_seq ?_
  refine W_region ?_
  refine Rg_run rfl (o_moveh (v := .bool _) rfl) ?_
  refine Rg_run rfl (o_not rfl) ?_
  refine Rg_run rfl (o_moveh (v := .bool _) rfl) ?_
  refine Rg_may 2 22 rfl rfl rfl (fun hg => (o_moveh (v := .bool _) rfl)) ?_
  refine Rg_may 2 22 rfl rfl rfl (fun hg => (o_not (gsel (u := undef) hg))) ?_
  refine Rg_run rfl (o_or (u := undef) rfl rfl) ?_
  refine Rg_nil ?_
  refine W_cond rfl (fun hc1 => ?_) (fun hc1 => ?_)
  · skip
    refine W_seq ?_
    refine W_region ?_
    refine Rg_run rfl o_assignc ?_
    refine Rg_run rfl o_assignc ?_
    refine Rg_nil ?_
    refine W_ret ?_
    refine ⟨_, res_tmp2 rfl rfl rfl, ?_⟩
    exact ⟨by rw [commonP_a hc1, okk_a hc1]; rfl, hX⟩
  · skip
    refine W_skip ?_
    refine W_seq ?_
    refine W_region ?_
    refine Rg_run rfl (o_moveh (v := .slice _ _ _) rfl) ?_
    refine Rg_run rfl (o_moveh (v := .slice _ _ _) rfl) ?_
    refine Rg_run rfl (o_moveh (v := .slice _ _ _) rfl) ?_
    refine Rg_enter rfl (o_call2 Tryd.call56 rfl rfl) (Ok.mono (common_ok (False) _ _ _ _ _ _ _ _ _ hs12 hs17) ?_)
    rintro _ w5 ⟨rfl, x6⟩
    replace hX := Bel.ex hX x6
    replace hs12 := hs12.ext x6
    replace hs17 := hs17.ext x6
    refine Rg_run rfl (o_slto (j := commonS (splitL p) (splitL q)) Tryd.underlying35 Tryd.sizeOf9 rfl rfl (by have := hs12.le; have := (commonS_le (splitL p) (splitL q)).1; omega)) ?_
    refine Rg_enter rfl (o_call1 Tryd.call55 rfl) (Ok.mono (pjoinK_ok _ _ _ p _ _ hs12 (commonS_le _ _).1) ?_)
    rintro _ w7 ⟨rfl, x8⟩
    replace hX := Bel.ex hX x8
    replace hs12 := hs12.ext x8
    replace hs17 := hs17.ext x8
    refine Rg_run rfl (o_assignh (v := str _) rfl) ?_
    refine Rg_run rfl o_assignc ?_
    refine Rg_nil ?_
    refine W_ret ?_
    refine ⟨_, res_tmp2 rfl rfl rfl, ?_⟩
    exact ⟨by rw [commonP_b hc1, okk_b hc1]; rfl, hX⟩

theorem panc_ok (w : World) (p : Str) (hp : p.length ≤ 1000000) : Ok Tryd.prog 30 #[str p] w fun v w' => Own encS 1 9 (Fsh w w') w' v (ancS p) ∧ Ext False w w' := by
  have h8 := splitL_len p
  refine Ok_of_W 26 Tryd.func30 rfl rfl rfl ?_
  have hX : Ext False w w := Bel.refl _ _
  refine W_seq ?_
  refine W_region ?_
  refine Rg_run rfl o_assignc ?_
  refine Rg_nil ?_
  refine W_seq ?_
  refine W_region ?_
  refine Rg_run rfl (o_moveh (v := str _) rfl) ?_
  refine Rg_enter rfl (o_call1 Tryd.call54 rfl) (Ok.mono (split_ok (False) _ (by first | assumption | omega | (simp; done) | (simp; omega) | (simp at *; omega)) _) ?_)
  rintro _ w1 ⟨a9, c9, rfl, hs9, x2⟩
  have z3 := Bel.size x2
  replace hX := Bel.ex hX x2
  refine Rg_run rfl (o_moveh (v := .tuple _) rfl) ?_
  refine Rg_run rfl (o_extract rfl rfl) ?_
  refine Rg_run rfl (o_extract rfl rfl) ?_
  refine Rg_run rfl (o_assignh (v := .slice _ _ _) rfl) ?_
  refine Rg_run rfl (o_assignh (v := .bool _) rfl) ?_
  refine Rg_nil ?_
  refine W_seq ?_
  refine W_region ?_
  refine Rg_run rfl o_assignc ?_
  refine Rg_nil ?_
  refine W_seq ?_
  refine W_seq ?_
  refine W_region ?_
  refine Rg_run rfl (o_moveh (v := .slice _ _ _) rfl) ?_
  refine Rg_run rfl (o_llen Tryd.underlying35 rfl) ?_
  refine Rg_run rfl o_movec ?_
  refine Rg_nil ?_
  refine W_block ?_
  refine W_for (α := Nat × Value) [(5, 6), (14, 24)] (fun q => [(14, .int .i64 (q.1 : Int)), (5, q.2)]) (fun q w' => (q.1 ≤ (splitL p).length) ∧ Bel False (fun g => w1.heap.size ≤ g) w1 w' ∧ (Own encS 1 9 (fun g => w1.heap.size ≤ g) w' q.2 ((List.range q.1).map fun i => joinP ((splitL p).take i)))) (fun q => (splitL p).length - q.1) (0, .slice none 0 0) ⟨rfl, rfl, trivial⟩ ⟨Nat.zero_le _, Bel.refl _ _, Own.nil _ _⟩ ?_
  rintro ⟨k, u⟩ fb6 w5 ⟨hk, hXL4, hown⟩
  dsimp only at *
  have z7 := Bel.size hXL4
  replace hX := Bel.out hX hXL4 (fun g h1 h2 => by first | exact h2 | omega)
  replace hs9 := hs9.keep hXL4 (fun g h1 h2 h3 => by omega)
  refine W_seq ?_
  refine W_region ?_
  refine Rg_run rfl (o_lss rfl rfl) ?_
  refine Rg_nil ?_
  refine W_seq ?_
  refine W_cond rfl (fun hc1 => ?_) (fun hc1 => ?_)
  · skip
    replace hc1 := of_decide_eq_true hc1
    refine W_skip ?_
    refine W_seq ?_
    refine W_block ?_
    refine W_seq ?_
    refine W_region ?_
    refine Rg_run rfl (o_moveh (v := .int _ _) rfl) ?_
    refine Rg_run rfl (o_assignh (v := .int _ _) rfl) ?_
    refine Rg_nil ?_
    refine W_region ?_
    refine Rg_run rfl (o_moveh (v := u) rfl) ?_
    refine Rg_run rfl (o_moveh (v := .slice _ _ _) rfl) ?_
    refine Rg_run rfl (o_moveh (v := .int _ _) rfl) ?_
    refine Rg_run rfl (o_slto (j := k) Tryd.underlying35 Tryd.sizeOf9 rfl rfl (by have := hs9.le; omega)) ?_
    refine Rg_enter rfl (o_call1 Tryd.call55 rfl) (Ok.mono (pjoinK_ok _ _ _ p k _ hs9 (by omega)) ?_)
    rintro _ w8 ⟨rfl, x9⟩
    have z10 := Bel.size x9
    replace hX := Bel.ex hX x9
    replace hXL4 := Bel.ex hXL4 x9
    replace hs9 := hs9.ext x9
    replace hown := hown.ext x9
    refine Rg_bs (vs := [str _]) ([joinP ((splitL p).take k)]) rfl encS_ok el_string rfl rfl ⟨rfl, trivial⟩ rfl rfl rfl rfl ?_
    intro a22 w11 x12 hown22
    have z13 := Bel.size x12
    replace hX := Bel.ex hX x12
    replace hXL4 := Bel.ex hXL4 x12
    replace hs9 := hs9.ext x12
    replace hown := hown.ext x12
    replace hown22 := hown22.mono (D' := fun g => w1.heap.size ≤ g) (fun g h1 h2 => by omega)
    refine Rg_app rfl encS_ok el_string rfl rfl hown (hown22.slA encS_ok) rfl (by simp; omega) (fun g h => by omega) ?_
    intro v23 w14 x15 hown
    have z16 := Bel.size x15
    replace hX := Bel.out hX x15 (fun g h1 h2 => by first | exact h2 | omega)
    replace hXL4 := Bel.out hXL4 x15 (fun g h1 h2 => by first | exact h2 | omega)
    replace hs9 := hs9.keep x15 (fun g h1 h2 h3 => by omega)
    refine Rg_run rfl (o_assignh (v := v23) rfl) ?_
    refine Rg_nil ?_
    refine W_region ?_
    refine Rg_run rfl (o_add rfl rfl (by first | omega | (unfold I64; omega) | (simp; done) | (simp; omega) | (simp at *; omega))) ?_
    refine Rg_run rfl (o_moveh (v := .int _ _) rfl) ?_
    refine Rg_nil ?_
    refine ⟨(k + 1, v23), ⟨?_, ?_, trivial⟩, ?_, ⟨?_, hXL4, ?_⟩, ?_⟩
    · first | rfl | (go_num) | (exact congrArg _ (by omega))
    · first | rfl | (go_num) | (exact congrArg _ (by omega))
    · repeat (first | exact off_refl _ _ | exact off_mix | refine off_put rfl ?_ | refine off_putN ?_ | refine off_setL rfl ?_ | refine off_mix' rfl ?_)
    · show k + 1 ≤ (splitL p).length; omega
    · show Own _ _ _ _ _ _ ((List.range (k + 1)).map _); rw [List.range_succ, List.map_append]; exact hown
    · show (splitL p).length - (k + 1) < (splitL p).length - k; omega
  · skip
    replace hc1 := of_decide_eq_false hc1
    refine W_exit ?_
    refine exAt_hit ?_
    refine W_seq ?_
    refine W_region ?_
    refine Rg_run rfl (o_moveh (v := u) rfl) ?_
    refine Rg_run rfl (o_assignh (v := u) rfl) ?_
    refine Rg_nil ?_
    refine W_ret ?_
    refine ⟨_, res_tmp rfl rfl, ?_⟩
    rw [anc_end (by omega)] at hown; exact ⟨hown.mono (fun g h1 h2 => by omega), hX⟩

theorem pjoinE_ok (w : World) (vl : Value) (l : List Str) (hl : Rd encS 1 (Lt w.heap.size) w vl l) (nl : l.length ≤ 12) (ol : ∀ p ∈ l, (fun p => p.length ≤ 40) p) : Ok Tryd.prog 47 #[vl] w fun v w' => v = .tuple #[str (joinE l).1, .int .i64 (joinE l).2] ∧ Ext False w w' := by
  obtain ⟨al, cl, rfl, hl⟩ := hl; have ml := hl.len
  refine Ok_of_W 21 Tryd.func47 rfl rfl rfl ?_
  have hX : Ext False w w := Bel.refl _ _
  refine W_seq ?_
  refine W_region ?_
  refine Rg_run rfl o_assignc ?_
  refine Rg_run rfl o_assignc ?_
  refine Rg_nil ?_
  refine W_seq ?_
  refine W_seq ?_
  refine W_region ?_
  refine Rg_run rfl (o_moveh (v := .slice _ _ _) rfl) ?_
  refine Rg_run rfl (o_llen Tryd.underlying35 rfl) ?_
  refine Rg_run rfl (o_gtr rfl rfl) ?_
  refine Rg_nil ?_
  refine W_cond rfl (fun hc1 => ?_) (fun hc1 => ?_)
  · skip
    replace hc1 := of_decide_eq_true hc1
    refine W_seq ?_
    refine W_region ?_
    refine Rg_run rfl o_assignc ?_
    refine Rg_run rfl o_assignc ?_
    refine Rg_nil ?_
    refine W_ret ?_
    refine ⟨_, res_tmp2 rfl rfl rfl, ?_⟩
    exact ⟨by rw [joinE_a hc1]; rfl, hX⟩
  · skip
    replace hc1 := of_decide_eq_false hc1
    refine W_skip ?_
    refine W_seq ?_
    refine W_seq ?_
    refine W_region ?_
    refine Rg_run rfl (o_moveh (v := .slice _ _ _) rfl) ?_
    refine Rg_run rfl (o_llen Tryd.underlying35 rfl) ?_
    refine Rg_run rfl o_movec ?_
    refine Rg_nil ?_
    refine W_block ?_
    refine W_for (α := Nat) [(2, 3), (5, 5), (11, 18)] (fun k => [(11, .int .i64 (k : Int))]) (fun k w' => (k ≤ l.length ∧ (l.take k).all namedS = true) ∧ Ext False w w') (fun k => l.length - k) 0 ⟨rfl, trivial⟩ ⟨⟨Nat.zero_le _, by simp⟩, Bel.refl _ _⟩ ?_
    rintro k fb3 w2 ⟨⟨hk, hall⟩, hXL1⟩
    replace hX := Bel.ex hX hXL1
    replace hl := hl.ext hXL1
    refine W_seq ?_
    refine W_region ?_
    refine Rg_run rfl (o_lss rfl rfl) ?_
    refine Rg_nil ?_
    refine W_seq ?_
    refine W_cond rfl (fun hc2 => ?_) (fun hc2 => ?_)
    · skip
      replace hc2 := of_decide_eq_true hc2
      refine W_skip ?_
      refine W_seq ?_
      refine W_block ?_
      refine W_seq ?_
      refine W_region ?_
      refine Rg_run rfl (o_iaR Tryd.underlying35 Tryd.sizeOf9 hl rfl rfl (by first | omega | (unfold I64; omega) | (simp; done) | (simp; omega) | (simp at *; omega))) ?_
      refine Rg_run rfl (o_ldR Tryd.isAgg9 hl rfl rfl (getE [] (by omega)) rfl) ?_
      refine Rg_run rfl (o_assignh (v := str _) rfl) ?_
      refine Rg_nil ?_
      refine W_seq ?_
      refine W_region ?_
      refine Rg_run rfl (o_moveh (v := str _) rfl) ?_
      refine Rg_enter rfl (o_call1 Tryd.call70 rfl) (Ok.mono (named_ok (False) _ (by have := ol _ (getD_mem (z := []) (show k < l.length by omega)); simp only at this; omega) _) ?_)
      rintro _ w4 ⟨rfl, x5⟩
      replace hX := Bel.ex hX x5
      replace hXL1 := Bel.ex hXL1 x5
      replace hl := hl.ext x5
      refine Rg_run rfl (o_not rfl) ?_
      refine Rg_nil ?_
      refine W_cond rfl (fun hc3 => ?_) (fun hc3 => ?_)
      · skip
        refine W_seq ?_
        refine W_region ?_
        refine Rg_run rfl o_assignc ?_
        refine Rg_run rfl o_assignc ?_
        refine Rg_nil ?_
        refine W_ret ?_
        refine ⟨_, res_tmp2 rfl rfl rfl, ?_⟩
        exact ⟨by rw [joinE_b hc1 (allD_at (k := k) (by omega) (bnot_t hc3))]; rfl, hX⟩
      · skip
        refine W_skip ?_
        refine W_region ?_
        refine Rg_run rfl (o_add rfl rfl (by first | omega | (unfold I64; omega) | (simp; done) | (simp; omega) | (simp at *; omega))) ?_
        refine Rg_run rfl (o_moveh (v := .int _ _) rfl) ?_
        refine Rg_nil ?_
        refine ⟨k + 1, ⟨?_, trivial⟩, ?_, ⟨?_, hXL1⟩, ?_⟩
        · first | rfl | (go_num) | (exact congrArg _ (by omega))
        · repeat (first | exact off_refl _ _ | exact off_mix | refine off_put rfl ?_ | refine off_putN ?_ | refine off_setL rfl ?_ | refine off_mix' rfl ?_)
        · exact ⟨by omega, allD_succ (by omega) hall (bnot_f hc3)⟩
        · omega
    · skip
      replace hc2 := of_decide_eq_false hc2
      refine W_exit ?_
      refine exAt_hit ?_
      refine W_seq ?_
      refine W_region ?_
      refine Rg_run rfl (o_moveh (v := .slice _ _ _) rfl) ?_
      refine Rg_enter rfl (o_call1 Tryd.call55 rfl) (Ok.mono (pjoin_ok _ _ _ _ _ hl (by omega) (by have := join_bd ol nl; omega)) ?_)
      rintro _ w6 ⟨rfl, x7⟩
      replace hX := Bel.ex hX x7
      replace hl := hl.ext x7
      refine Rg_run rfl (o_assignh (v := str _) rfl) ?_
      refine Rg_run rfl o_assignc ?_
      refine Rg_nil ?_
      refine W_ret ?_
      refine ⟨_, res_tmp2 rfl rfl rfl, ?_⟩
      exact ⟨by rw [joinE_c hc1 (all_end (by omega) hall)]; rfl, hX⟩

theorem sequal_ok (β : Prop) (a b : Option Addr) (c d : Nat) (A B : Nat → Prop) (x y : List Str) (w : World) (hx : Sl encS 1 A w a c x) (hy : Sl encS 1 B w b d y) : Ok Tryd.prog 27 #[.slice a x.length c, .slice b y.length d] w fun v w' => v = .bool (x == y) ∧ Ext β w w' := by
  have hlx := hx.len; have hly := hy.len
  refine Ok_of_W 26 Tryd.func27 rfl rfl rfl ?_
  have hX : Ext β w w := Bel.refl _ _
  refine W_seq ?_
  refine W_region ?_
  refine Rg_run rfl o_assignc ?_
  refine Rg_nil ?_
  refine W_seq ?_
  refine W_seq ?_
  refine W_region ?_
  refine Rg_run rfl (o_moveh (v := .slice _ _ _) rfl) ?_
  refine Rg_run rfl (o_llen Tryd.underlying35 rfl) ?_
  refine Rg_run rfl (o_moveh (v := .slice _ _ _) rfl) ?_
  refine Rg_run rfl (o_llen Tryd.underlying35 rfl) ?_
  refine Rg_run rfl (o_neq rfl rfl) ?_
  refine Rg_nil ?_
  refine W_cond rfl (fun hc1 => ?_) (fun hc1 => ?_)
  · skip
    first | replace hc1 := of_decide_eq_true hc1 | replace hc1 := bnot_t hc1 | skip
    refine W_seq ?_
    refine W_region ?_
    refine Rg_run rfl o_assignc ?_
    refine Rg_nil ?_
    refine W_ret ?_
    refine ⟨_, res_tmp rfl rfl, ?_⟩
    refine ⟨congrArg Value.bool ?_, hX⟩
    all_goals (exact (eqT_len (by simpa using hc1)).symm)
  · skip
    have hle : (x.length : Int) = y.length := by simpa using hc1
    refine W_skip ?_
    refine W_seq ?_
    refine W_seq ?_
    refine W_region ?_
    refine Rg_run rfl (o_moveh (v := .slice _ _ _) rfl) ?_
    refine Rg_run rfl (o_llen Tryd.underlying35 rfl) ?_
    refine Rg_run rfl o_movec ?_
    refine Rg_nil ?_
    refine W_block ?_
    refine W_for (α := Nat) [(4, 5), (13, 25)] (fun k => [(13, .int .i64 (k : Int))]) (fun k w' => (k ≤ x.length ∧ x.take k = y.take k) ∧ Ext β w w') (fun k => x.length - k) 0 ⟨rfl, trivial⟩ ⟨⟨by omega, by simp⟩, Bel.refl _ _⟩ ?_
    rintro k fb3 w2 ⟨⟨hk, hall⟩, hXL1⟩
    replace hX := Bel.ex hX hXL1
    replace hx := hx.ext hXL1
    replace hy := hy.ext hXL1
    refine W_seq ?_
    refine W_region ?_
    refine Rg_run rfl (o_lss rfl rfl) ?_
    refine Rg_nil ?_
    refine W_seq ?_
    refine W_cond rfl (fun hc2 => ?_) (fun hc2 => ?_)
    · skip
      first | replace hc2 := of_decide_eq_true hc2 | replace hc2 := bnot_t hc2 | skip
      refine W_skip ?_
      refine W_seq ?_
      refine W_block ?_
      refine W_seq ?_
      refine W_region ?_
      refine Rg_run rfl (o_moveh (v := .int _ _) rfl) ?_
      refine Rg_run rfl (o_assignh (v := .int _ _) rfl) ?_
      refine Rg_nil ?_
      refine W_seq ?_
      apply W_draw (β := β) [peq _, peq _, peq _, peq _, peq _, peq _, peq _, peq _, peq _] 9 mixed (by kernel_rfl) rfl ⟨peq_stable _, peq_stable _, peq_stable _, peq_stable _, peq_stable _, peq_stable _, peq_stable _, peq_stable _, peq_stable _, trivial⟩ ?ob6 ?fin6
      case ob6 =>
        refine OblL_cons (fun w4 x5 => ?_) ?_
        · skip
          have hx := hx.ext x5
          have hy := hy.ext x5
          refine bindP_nil ?_
          exact OpS_v rfl (o_moveh (v := .slice _ _ _) rfl)
        refine OblL_cons (fun w6 x7 => ?_) ?_
        · skip
          have hx := hx.ext x7
          have hy := hy.ext x7
          refine bindP_nil ?_
          exact OpS_v rfl (o_moveh (v := .int _ _) rfl)
        refine OblL_cons (fun w8 x9 => ?_) ?_
        · skip
          have hx := hx.ext x9
          have hy := hy.ext x9
          refine bindP_eq ?_
          refine bindP_eq ?_
          refine bindP_nil ?_
          exact OpS_v rfl (o_iaR Tryd.underlying35 Tryd.sizeOf9 hx rfl rfl (by first | omega | (unfold I64; omega) | (simp; done) | (simp; omega) | (simp at *; omega)))
        refine OblL_cons (fun w10 x11 => ?_) ?_
        · skip
          have hx := hx.ext x11
          have hy := hy.ext x11
          refine bindP_eq ?_
          refine bindP_nil ?_
          exact OpS_v rfl (o_ldR Tryd.isAgg9 hx rfl rfl (getE [] (by omega)) rfl)
        refine OblL_cons (fun w12 x13 => ?_) ?_
        · skip
          have hx := hx.ext x13
          have hy := hy.ext x13
          refine bindP_nil ?_
          exact OpS_v rfl (o_moveh (v := .slice _ _ _) rfl)
        refine OblL_cons (fun w14 x15 => ?_) ?_
        · skip
          have hx := hx.ext x15
          have hy := hy.ext x15
          refine bindP_nil ?_
          exact OpS_v rfl (o_moveh (v := .int _ _) rfl)
        refine OblL_cons (fun w16 x17 => ?_) ?_
        · skip
          have hx := hx.ext x17
          have hy := hy.ext x17
          refine bindP_eq ?_
          refine bindP_eq ?_
          refine bindP_nil ?_
          exact OpS_v rfl (o_iaR Tryd.underlying35 Tryd.sizeOf9 hy rfl rfl (by first | omega | (unfold I64; omega) | (simp; done) | (simp; omega) | (simp at *; omega)))
        refine OblL_cons (fun w18 x19 => ?_) ?_
        · skip
          have hx := hx.ext x19
          have hy := hy.ext x19
          refine bindP_eq ?_
          refine bindP_nil ?_
          exact OpS_v rfl (o_ldR Tryd.isAgg9 hy rfl rfl (getE [] (by omega)) rfl)
        refine OblL_cons (fun w20 x21 => ?_) ?_
        · skip
          have hx := hx.ext x21
          have hy := hy.ext x21
          refine bindP_eq ?_
          refine bindP_eq ?_
          refine bindP_nil ?_
          exact OpS_v rfl (o_sneq rfl rfl)
        exact OblL_nil
      case fin6 =>
        intro w22 x23
        replace hX := Bel.ex hX x23
        replace hXL1 := Bel.ex hXL1 x23
        replace hx := hx.ext x23
        replace hy := hy.ext x23
        refine bindP_eq ?_
        refine bindP_eq ?_
        refine bindP_eq ?_
        refine bindP_eq ?_
        refine bindP_eq ?_
        refine bindP_eq ?_
        refine bindP_eq ?_
        refine bindP_eq ?_
        refine bindP_eq ?_
        refine bindP_nil ?_
        refine Rg_nil ?_
        refine W_cond rfl (fun hc3 => ?_) (fun hc3 => ?_)
        · skip
          first | replace hc3 := of_decide_eq_true hc3 | replace hc3 := bnot_t hc3 | skip
          refine W_seq ?_
          refine W_region ?_
          refine Rg_run rfl o_assignc ?_
          refine Rg_nil ?_
          refine W_ret ?_
          refine ⟨_, res_tmp rfl rfl, ?_⟩
          refine ⟨congrArg Value.bool ?_, hX⟩
          all_goals (exact (eqT_ne (z := []) (k := k) (by simpa using hc3)).symm)
        · skip
          first | replace hc3 := of_decide_eq_false hc3 | replace hc3 := bnot_f hc3 | skip
          refine W_skip ?_
          refine W_region ?_
          refine Rg_run rfl (o_add rfl rfl (by first | omega | (unfold I64; omega) | (simp; done) | (simp; omega) | (simp at *; omega))) ?_
          refine Rg_run rfl (o_moveh (v := .int _ _) rfl) ?_
          refine Rg_nil ?_
          refine ⟨k + 1, ⟨?_, trivial⟩, ?_, ⟨?_, hXL1⟩, ?_⟩
          · first | rfl | (go_num) | (exact congrArg _ (by omega))
          · repeat (first | exact off_refl _ _ | exact off_mix | refine off_put rfl ?_ | refine off_putN ?_ | refine off_setL rfl ?_ | refine off_mix' rfl ?_)
          · exact ⟨by omega, eqT_succ (z := []) (by omega) (by omega) hall (by simpa using hc3)⟩
          · omega
    · skip
      first | replace hc2 := of_decide_eq_false hc2 | replace hc2 := bnot_f hc2 | skip
      refine W_exit ?_
      refine exAt_hit ?_
      refine W_seq ?_
      refine W_region ?_
      refine Rg_run rfl o_assignc ?_
      refine Rg_nil ?_
      refine W_ret ?_
      refine ⟨_, res_tmp rfl rfl, ?_⟩
      refine ⟨congrArg Value.bool ?_, hX⟩
      all_goals (exact (eqT_end (k := k) (by omega) (by omega) hall).symm)

end Go.Proofs.YtnhbdlllkmnpfaaDoor
