/- Walks, printed by program: each theorem says what a function of the translation returns. -/
import Derived.Test.YtnhbdlllkmnpfaaDoorWref7a
namespace Go.Proofs.YtnhbdlllkmnpfaaDoor
open Go Go.Lx Go.RowKit
set_option maxRecDepth 100000
set_option linter.unusedVariables false
set_option linter.unusedSimpArgs false
set_option linter.unnecessarySimpa false
theorem r7anc_ok (w : World) (p : Str) (hp : p.length ≤ 1000000) : Ok Tryd.prog 31 #[str p] w fun v w' => Own encS 1 9 (Fsh w w') w' v (ancS p) ∧ Ext False w w' := by
  refine Ok_of_W 30 Tryd.func31 rfl rfl rfl ?_
  have hX : Ext False w w := Bel.refl _ _
  refine W_seq ?_
  refine W_region ?_
  refine Rg_run rfl o_assignc ?_
  refine Rg_nil ?_
  refine W_seq ?_
  refine W_region ?_
  refine Rg_run rfl (o_moveh (v := str _) rfl) ?_
  refine Rg_enter rfl (o_call1 Tryd.call57 rfl) (Ok.mono (rsplit_ok _ _ (by first | assumption | omega | (simp; done) | (simp; omega) | (simp at *; omega))) ?_)
  rintro _ w1 ⟨a9, c9, l9, rfl, hs9, hl9, x2⟩
  have z3 := Bel.size x2
  replace hX := Bel.ex hX x2
  refine Rg_run rfl (o_moveh (v := .tuple _) rfl) ?_
  refine Rg_run rfl (o_extract rfl rfl) ?_
  refine Rg_run rfl (o_extract rfl rfl) ?_
  refine Rg_run rfl (o_assignh (v := .slice _ _ _) rfl) ?_
  refine Rg_run rfl (o_assignh (v := .bool _) rfl) ?_
  refine Rg_nil ?_
  refine W_seq ?_
  refine W_region ?_
  refine Rg_run rfl o_assignc ?_
  refine Rg_nil ?_
  refine W_seq ?_
  refine W_seq ?_
  refine W_region ?_
  refine Rg_run rfl o_assignc ?_
  refine Rg_nil ?_
  refine W_block ?_
  refine W_for (α := Nat × Value) [(5, 6), (12, 28)] (fun q => [(6, .int .i64 (q.1 : Int)), (5, q.2)]) (fun q w' => (q.1 ≤ l9.length ∧ (splitOk p = false → q.1 = 0)) ∧ Bel False (fun g => w1.heap.size ≤ g) w1 w' ∧ (Own encS 1 9 (fun g => w1.heap.size ≤ g) w' q.2 ((List.range q.1).map fun i => joinP ((splitL p).take i)))) (fun q => l9.length - q.1) (0, .slice none 0 0) ⟨rfl, rfl, trivial⟩ ⟨⟨Nat.zero_le _, fun _ => rfl⟩, Bel.refl _ _, Own.nil _ _⟩ ?_
  rintro ⟨k, u⟩ fb6 w5 ⟨⟨hk, hz⟩, hXL4, hown⟩
  dsimp only at *
  have z7 := Bel.size hXL4
  replace hX := Bel.out hX hXL4 (fun g h1 h2 => by first | exact h2 | omega)
  replace hs9 := hs9.keep hXL4 (fun g h1 h2 h3 => by omega)
  refine W_seq ?_
  refine W_seq ?_
  refine W_region ?_
  refine Rg_run rfl (o_moveh (v := .int _ _) rfl) ?_
  refine Rg_run rfl (o_moveh (v := .slice _ _ _) rfl) ?_
  refine Rg_run rfl (o_llen Tryd.underlying35 rfl) ?_
  refine Rg_run rfl (o_lss rfl rfl) ?_
  refine Rg_run rfl (o_moveh (v := .bool _) rfl) ?_
  refine Rg_may 4 16 rfl rfl rfl (fun hg => (o_moveh (v := str _) rfl)) ?_
  refine Rg_mayCall 4 16 rfl rfl rfl (fun hg => ⟨(o_call1 Tryd.call19 (gsel (u := undef) hg)), r7valid_ok _ _ (by first | assumption | omega | (simp; done) | (simp; omega) | (simp at *; omega))⟩) ?_
  intro w8 x9
  have z10 := Bel.size x9
  replace hX := Bel.ex hX x9
  replace hXL4 := Bel.ex hXL4 x9
  replace hs9 := hs9.ext x9
  replace hown := hown.ext x9
  refine Rg_run rfl (o_and (u := undef) rfl rfl) ?_
  refine Rg_nil ?_
  refine W_cond rfl (fun hc1 => ?_) (fun hc1 => ?_)
  · skip
    obtain ⟨hkl, hok⟩ := anc_yes hc1; obtain rfl := hl9 hok
    refine W_skip ?_
    refine W_seq ?_
    refine W_block ?_
    refine W_region ?_
    refine Rg_run rfl (o_moveh (v := u) rfl) ?_
    refine Rg_run rfl (o_moveh (v := .slice _ _ _) rfl) ?_
    refine Rg_run rfl (o_moveh (v := .int _ _) rfl) ?_
    refine Rg_run rfl (o_slto (j := k) Tryd.underlying35 Tryd.sizeOf9 rfl rfl (by have := hs9.le; omega)) ?_
    refine Rg_enter rfl (o_call1 Tryd.call24 rfl) (Ok.mono (r7ofK_ok _ _ p k _ hs9 (by omega)) ?_)
    rintro _ w11 ⟨rfl, x12⟩
    have z13 := Bel.size x12
    replace hX := Bel.ex hX x12
    replace hXL4 := Bel.ex hXL4 x12
    replace hs9 := hs9.ext x12
    replace hown := hown.ext x12
    refine Rg_bs (vs := [str _]) ([joinP ((splitL p).take k)]) rfl encS_ok el_string rfl rfl ⟨rfl, trivial⟩ rfl rfl rfl rfl ?_
    intro a27 w14 x15 hown27
    have z16 := Bel.size x15
    replace hX := Bel.ex hX x15
    replace hXL4 := Bel.ex hXL4 x15
    replace hs9 := hs9.ext x15
    replace hown := hown.ext x15
    replace hown27 := hown27.mono (D' := fun g => w1.heap.size ≤ g) (fun g h1 h2 => by omega)
    refine Rg_app rfl encS_ok el_string rfl rfl hown (hown27.slA encS_ok) rfl (by have := splitL_len p; simp; omega) (fun g h => by omega) ?_
    intro v28 w17 x18 hown
    have z19 := Bel.size x18
    replace hX := Bel.out hX x18 (fun g h1 h2 => by first | exact h2 | omega)
    replace hXL4 := Bel.out hXL4 x18 (fun g h1 h2 => by first | exact h2 | omega)
    replace hs9 := hs9.keep x18 (fun g h1 h2 h3 => by omega)
    refine Rg_run rfl (o_assignh (v := v28) rfl) ?_
    refine Rg_nil ?_
    refine W_region ?_
    refine Rg_run rfl (o_moveh (v := .int _ _) rfl) ?_
    refine Rg_run rfl (o_add rfl rfl (by have := splitL_len p; unfold I64; omega)) ?_
    refine Rg_run rfl (o_assignh (v := .int _ _) rfl) ?_
    refine Rg_nil ?_
    refine ⟨(k + 1, v28), ⟨?_, ?_, trivial⟩, ?_, ⟨?_, hXL4, ?_⟩, ?_⟩
    · first | rfl | (go_num) | (exact congrArg _ (by omega))
    · first | rfl | (go_num) | (exact congrArg _ (by omega))
    · repeat (first | exact off_refl _ _ | exact off_mix | refine off_put rfl ?_ | refine off_putN ?_ | refine off_setL rfl ?_ | refine off_mix' rfl ?_)
    · exact ⟨by show k + 1 ≤ (splitL p).length; omega, fun h => absurd hok (by rw [h]; decide)⟩
    · show Own _ _ _ _ _ _ ((List.range (k + 1)).map _); rw [List.range_succ, List.map_append]; exact hown
    · show (splitL p).length - (k + 1) < (splitL p).length - k; omega
  · skip
    refine W_exit ?_
    refine exAt_hit ?_
    refine W_seq ?_
    refine W_region ?_
    refine Rg_run rfl (o_moveh (v := u) rfl) ?_
    refine Rg_run rfl (o_assignh (v := u) rfl) ?_
    refine Rg_nil ?_
    refine W_ret ?_
    refine ⟨_, res_tmp rfl rfl, ?_⟩
    rw [anc_fin hk hz hl9 hc1] at hown; exact ⟨hown.mono (fun g h1 h2 => by omega), hX⟩

theorem r7below_ok (w : World) (vl : Value) (l : List Str) (hl : Rd encS 1 (Lt w.heap.size) w vl l) (nl : l.length ≤ 1000000) (ol : ∀ p ∈ l, (fun p => p.length ≤ 1000000) p) (p : Str) (hp : p.length ≤ 1000000) : Ok Tryd.prog 40 #[vl, str p] w fun v w' => Own encS 1 9 (Fsh w w') w' v (l.filter fun q => (l.any fun q => p == q) && withinS q p) ∧ Ext False w w' := by
  obtain ⟨al, cl, rfl, hl⟩ := hl; have ml := hl.len
  refine Ok_of_W 28 Tryd.func40 rfl rfl rfl ?_
  have hX : Ext False w w := Bel.refl _ _
  refine W_seq ?_
  refine W_region ?_
  refine Rg_run rfl o_assignc ?_
  refine Rg_nil ?_
  refine W_seq ?_
  refine W_region ?_
  refine Rg_run rfl o_assignc ?_
  refine Rg_nil ?_
  refine W_seq ?_
  refine W_seq ?_
  refine W_region ?_
  refine Rg_run rfl (o_moveh (v := .slice _ _ _) rfl) ?_
  refine Rg_run rfl (o_llen Tryd.underlying35 rfl) ?_
  refine Rg_run rfl o_movec ?_
  refine Rg_nil ?_
  refine W_block ?_
  refine W_for (α := Nat × Value) [(5, 5), (7, 7), (10, 26)] (fun q => [(10, .int .i64 (q.1 : Int)), (5, q.2)]) (fun q w' => (q.1 ≤ (l).length) ∧ Bel False (fun g => w.heap.size ≤ g) w w' ∧ (Own encS 1 9 (fun g => w.heap.size ≤ g) w' q.2 (((l).take q.1).filter (fun q => (l.any fun q => p == q) && withinS q p)))) (fun q => (l).length - q.1) (0, .slice none 0 0) ⟨rfl, rfl, trivial⟩ ⟨Nat.zero_le _, Bel.refl _ _, Own.nil _ _⟩ ?_
  rintro ⟨k, u⟩ fb3 w2 ⟨hk, hXL1, hown⟩
  dsimp only at *
  have z4 := Bel.size hXL1
  replace hX := Bel.out hX hXL1 (fun g h1 h2 => by first | exact h2 | omega)
  replace hl := hl.keep hXL1 (fun g h1 h2 h3 => by omega)
  refine W_seq ?_
  refine W_region ?_
  refine Rg_run rfl (o_lss rfl rfl) ?_
  refine Rg_nil ?_
  refine W_seq ?_
  refine W_cond rfl (fun hc1 => ?_) (fun hc1 => ?_)
  · skip
    replace hc1 := of_decide_eq_true hc1
    refine W_skip ?_
    refine W_seq ?_
    refine W_block ?_
    refine W_seq ?_
    refine W_region ?_
    refine Rg_run rfl (o_iaR Tryd.underlying35 Tryd.sizeOf9 hl rfl rfl (by first | omega | (unfold I64; omega) | (simp; done) | (simp; omega) | (simp at *; omega))) ?_
    refine Rg_run rfl (o_ldR Tryd.isAgg9 hl rfl rfl (getE [] (by omega)) rfl) ?_
    refine Rg_run rfl (o_assignh (v := str _) rfl) ?_
    refine Rg_nil ?_
    refine W_seq ?_
    refine W_region ?_
    refine Rg_run rfl (o_moveh (v := .slice _ _ _) rfl) ?_
    refine Rg_run rfl (o_moveh (v := str _) rfl) ?_
    refine Rg_enter rfl (o_call2 Tryd.call37 rfl rfl) (Ok.mono (r7has_ok (False) _ _ _ hl.trd (by first | assumption | omega | (simp; done) | (simp; omega) | (simp at *; omega)) (by first | assumption | omega | (simp; done) | (simp; omega) | (simp at *; omega)) _ (by first | assumption | omega | (simp; done) | (simp; omega) | (simp at *; omega))) ?_)
    rintro _ w5 ⟨rfl, x6⟩
    have z7 := Bel.size x6
    replace hX := Bel.ex hX x6
    replace hXL1 := Bel.ex hXL1 x6
    replace hl := hl.ext x6
    replace hown := hown.ext x6
    refine Rg_run rfl (o_moveh (v := .bool _) rfl) ?_
    refine Rg_may 3 17 rfl rfl rfl (fun hg => (o_moveh (v := str _) rfl)) ?_
    refine Rg_may 3 17 rfl rfl rfl (fun hg => (o_moveh (v := str _) rfl)) ?_
    refine Rg_mayCall 3 17 rfl rfl rfl (fun hg => ⟨(o_call2 Tryd.call17 (gsel (u := undef) hg) (gsel (u := undef) hg)), r7within_ok _ _ (ol _ (getD_mem (by omega))) _ hp⟩) ?_
    intro w8 x9
    have z10 := Bel.size x9
    replace hX := Bel.ex hX x9
    replace hXL1 := Bel.ex hXL1 x9
    replace hl := hl.ext x9
    replace hown := hown.ext x9
    refine Rg_run rfl (o_and (u := undef) rfl rfl) ?_
    refine Rg_nil ?_
    refine W_cond rfl (fun hc2 => ?_) (fun hc2 => ?_)
    · skip
      refine W_region ?_
      refine Rg_run rfl (o_moveh (v := u) rfl) ?_
      refine Rg_run rfl (o_moveh (v := str _) rfl) ?_
      refine Rg_bs (vs := [str _]) ([l.getD k []]) rfl encS_ok el_string rfl rfl ⟨rfl, trivial⟩ rfl rfl rfl rfl ?_
      intro a24 w11 x12 hown24
      have z13 := Bel.size x12
      replace hX := Bel.ex hX x12
      replace hXL1 := Bel.ex hXL1 x12
      replace hl := hl.ext x12
      replace hown := hown.ext x12
      replace hown24 := hown24.mono (D' := fun g => w.heap.size ≤ g) (fun g h1 h2 => by omega)
      refine Rg_app rfl encS_ok el_string rfl rfl hown (hown24.slA encS_ok) rfl (by have := List.length_filter_le (fun q => (l.any fun q => p == q) && withinS q p) (l.take k); simp at this ⊢; omega) (fun g h => by omega) ?_
      intro v25 w14 x15 hown
      have z16 := Bel.size x15
      replace hX := Bel.out hX x15 (fun g h1 h2 => by first | exact h2 | omega)
      replace hXL1 := Bel.out hXL1 x15 (fun g h1 h2 => by first | exact h2 | omega)
      replace hl := hl.keep x15 (fun g h1 h2 h3 => by omega)
      refine Rg_run rfl (o_assignh (v := v25) rfl) ?_
      refine Rg_nil ?_
      refine W_region ?_
      refine Rg_run rfl (o_add rfl rfl (by first | omega | (unfold I64; omega) | (simp; done) | (simp; omega) | (simp at *; omega))) ?_
      refine Rg_run rfl (o_moveh (v := .int _ _) rfl) ?_
      refine Rg_nil ?_
      refine ⟨(k + 1, v25), ⟨?_, ?_, trivial⟩, ?_, ⟨?_, hXL1, ?_⟩, ?_⟩
      · first | rfl | (go_num) | (exact congrArg _ (by omega))
      · first | rfl | (go_num) | (exact congrArg _ (by omega))
      · repeat (first | exact off_refl _ _ | exact off_mix | refine off_put rfl ?_ | refine off_putN ?_ | refine off_setL rfl ?_ | refine off_mix' rfl ?_)
      · show k + 1 ≤ (l).length; omega
      · show Own _ _ _ _ _ _ (((l).take (k + 1)).filter _); rw [filt_yes (z := []) (by omega) hc2]; exact hown
      · show (l).length - (k + 1) < (l).length - k; omega
    · skip
      refine W_skip ?_
      refine W_region ?_
      refine Rg_run rfl (o_add rfl rfl (by first | omega | (unfold I64; omega) | (simp; done) | (simp; omega) | (simp at *; omega))) ?_
      refine Rg_run rfl (o_moveh (v := .int _ _) rfl) ?_
      refine Rg_nil ?_
      refine ⟨(k + 1, u), ⟨?_, ?_, trivial⟩, ?_, ⟨?_, hXL1, ?_⟩, ?_⟩
      · first | rfl | (go_num) | (exact congrArg _ (by omega))
      · first | rfl | (go_num) | (exact congrArg _ (by omega))
      · repeat (first | exact off_refl _ _ | exact off_mix | refine off_put rfl ?_ | refine off_putN ?_ | refine off_setL rfl ?_ | refine off_mix' rfl ?_)
      · show k + 1 ≤ (l).length; omega
      · show Own _ _ _ _ _ _ (((l).take (k + 1)).filter _); rw [filt_no (z := []) (by omega) hc2]; exact hown
      · show (l).length - (k + 1) < (l).length - k; omega
  · skip
    replace hc1 := of_decide_eq_false hc1; rw [List.take_of_length_le (by omega)] at hown
    refine W_exit ?_
    refine exAt_hit ?_
    refine W_seq ?_
    refine W_region ?_
    refine Rg_run rfl (o_moveh (v := u) rfl) ?_
    refine Rg_run rfl (o_assignh (v := u) rfl) ?_
    refine Rg_nil ?_
    refine W_ret ?_
    refine ⟨_, res_tmp rfl rfl, ?_⟩
    exact ⟨hown.mono (fun g h1 h2 => by omega), hX⟩

theorem r7child_ok (w : World) (vl : Value) (l : List Str) (hl : Rd encS 1 (Lt w.heap.size) w vl l) (nl : l.length ≤ 1000000) (ol : ∀ p ∈ l, (fun p => p.length ≤ 1000000) p) (p : Str) (hp : p.length ≤ 1000000) : Ok Tryd.prog 39 #[vl, str p] w fun v w' => Own encS 1 9 (Fsh w w') w' v ((l.filter (fun q => (l.any fun q => p == q) && withinS q p)).filter (fun q => ((splitL q).length : Int) == (splitL p).length + 1)) ∧ Ext False w w' := by
  obtain ⟨al, cl, rfl, hl⟩ := hl; have ml := hl.len
  have hfl := List.length_filter_le (fun q => (l.any fun q => p == q) && withinS q p) l
  refine Ok_of_W 30 Tryd.func39 rfl rfl rfl ?_
  have hX : Ext False w w := Bel.refl _ _
  refine W_seq ?_
  refine W_region ?_
  refine Rg_run rfl o_assignc ?_
  refine Rg_nil ?_
  refine W_seq ?_
  refine W_region ?_
  refine Rg_run rfl o_assignc ?_
  refine Rg_nil ?_
  refine W_seq ?_
  refine W_seq ?_
  refine W_region ?_
  refine Rg_run rfl (o_moveh (v := .slice _ _ _) rfl) ?_
  refine Rg_run rfl (o_moveh (v := str _) rfl) ?_
  refine Rg_enter rfl (o_call2 Tryd.call40 rfl rfl) (Ok.mono (r7below_ok _ _ _ hl.trd (by first | assumption | omega | (simp; done) | (simp; omega) | (simp at *; omega)) (by first | assumption | omega | (simp; done) | (simp; omega) | (simp at *; omega)) _ (by first | assumption | omega | (simp; done) | (simp; omega) | (simp at *; omega))) ?_)
  rintro v10 w1 ⟨hown10, x2⟩
  have z3 := Bel.size x2
  replace hX := Bel.ex hX x2
  replace hl := hl.ext x2
  obtain ⟨a10, c10, hv10, hs10⟩ := hown10.sl encS_ok; subst hv10
  refine Rg_run rfl (o_llen Tryd.underlying35 rfl) ?_
  refine Rg_run rfl o_movec ?_
  refine Rg_nil ?_
  refine W_block ?_
  refine W_for (α := Nat × Value) [(5, 5), (7, 7), (12, 28)] (fun q => [(12, .int .i64 (q.1 : Int)), (5, q.2)]) (fun q w' => (q.1 ≤ (l.filter (fun q => (l.any fun q => p == q) && withinS q p)).length) ∧ Bel False (fun g => w1.heap.size ≤ g) w1 w' ∧ (Own encS 1 9 (fun g => w1.heap.size ≤ g) w' q.2 (((l.filter (fun q => (l.any fun q => p == q) && withinS q p)).take q.1).filter (fun q => ((splitL q).length : Int) == (splitL p).length + 1)))) (fun q => (l.filter (fun q => (l.any fun q => p == q) && withinS q p)).length - q.1) (0, .slice none 0 0) ⟨rfl, rfl, trivial⟩ ⟨Nat.zero_le _, Bel.refl _ _, Own.nil _ _⟩ ?_
  rintro ⟨k, u⟩ fb6 w5 ⟨hk, hXL4, hown⟩
  dsimp only at *
  have z7 := Bel.size hXL4
  replace hX := Bel.out hX hXL4 (fun g h1 h2 => by first | exact h2 | omega)
  replace hl := hl.keep hXL4 (fun g h1 h2 h3 => by omega)
  replace hs10 := hs10.keep hXL4 (fun g h1 h2 h3 => by omega)
  refine W_seq ?_
  refine W_region ?_
  refine Rg_run rfl (o_lss rfl rfl) ?_
  refine Rg_nil ?_
  refine W_seq ?_
  refine W_cond rfl (fun hc1 => ?_) (fun hc1 => ?_)
  · skip
    replace hc1 := of_decide_eq_true hc1
    refine W_skip ?_
    refine W_seq ?_
    refine W_block ?_
    refine W_seq ?_
    refine W_region ?_
    refine Rg_run rfl (o_iaR Tryd.underlying35 Tryd.sizeOf9 hs10 rfl rfl (by first | omega | (unfold I64; omega) | (simp; done) | (simp; omega) | (simp at *; omega))) ?_
    refine Rg_run rfl (o_ldR Tryd.isAgg9 hs10 rfl rfl (getE [] (by omega)) rfl) ?_
    refine Rg_run rfl (o_assignh (v := str _) rfl) ?_
    refine Rg_nil ?_
    refine W_seq ?_
    refine W_region ?_
    refine Rg_run rfl (o_moveh (v := str _) rfl) ?_
    refine Rg_enter rfl (o_call1 Tryd.call23 rfl) (Ok.mono (r7names_ok _ _ (ol _ (List.mem_filter.1 (getD_mem (by omega))).1)) ?_)
    rintro _ w8 ⟨⟨a17, c17, rfl, hs17⟩, x9⟩
    have z10 := Bel.size x9
    replace hX := Bel.ex hX x9
    replace hXL4 := Bel.ex hXL4 x9
    replace hl := hl.ext x9
    replace hs10 := hs10.ext x9
    replace hown := hown.ext x9
    refine Rg_run rfl (o_llen Tryd.underlying35 rfl) ?_
    refine Rg_run rfl (o_moveh (v := str _) rfl) ?_
    refine Rg_enter rfl (o_call1 Tryd.call23 rfl) (Ok.mono (r7names_ok _ _ hp) ?_)
    rintro _ w11 ⟨⟨a20, c20, rfl, hs20⟩, x12⟩
    have z13 := Bel.size x12
    replace hX := Bel.ex hX x12
    replace hXL4 := Bel.ex hXL4 x12
    replace hl := hl.ext x12
    replace hs10 := hs10.ext x12
    replace hown := hown.ext x12
    replace hs17 := hs17.ext x12
    refine Rg_run rfl (o_llen Tryd.underlying35 rfl) ?_
    refine Rg_run rfl (o_add rfl rfl (by have := splitL_len p; unfold I64; omega)) ?_
    refine Rg_run rfl (o_eql rfl rfl) ?_
    refine Rg_nil ?_
    refine W_cond rfl (fun hc2 => ?_) (fun hc2 => ?_)
    · skip
      refine W_region ?_
      refine Rg_run rfl (o_moveh (v := u) rfl) ?_
      refine Rg_run rfl (o_moveh (v := str _) rfl) ?_
      refine Rg_bs (vs := [str _]) ([(l.filter (fun q => (l.any fun q => p == q) && withinS q p)).getD k []]) rfl encS_ok el_string rfl rfl ⟨rfl, trivial⟩ rfl rfl rfl rfl ?_
      intro a26 w14 x15 hown26
      have z16 := Bel.size x15
      replace hX := Bel.ex hX x15
      replace hXL4 := Bel.ex hXL4 x15
      replace hl := hl.ext x15
      replace hs10 := hs10.ext x15
      replace hown := hown.ext x15
      replace hs17 := hs17.ext x15
      replace hs20 := hs20.ext x15
      replace hown26 := hown26.mono (D' := fun g => w1.heap.size ≤ g) (fun g h1 h2 => by omega)
      refine Rg_app rfl encS_ok el_string rfl rfl hown (hown26.slA encS_ok) rfl (by have := List.length_filter_le (fun q => ((splitL q).length : Int) == (splitL p).length + 1) ((l.filter (fun q => (l.any fun q => p == q) && withinS q p)).take k); simp at this ⊢; omega) (fun g h => by omega) ?_
      intro v27 w17 x18 hown
      have z19 := Bel.size x18
      replace hX := Bel.out hX x18 (fun g h1 h2 => by first | exact h2 | omega)
      replace hXL4 := Bel.out hXL4 x18 (fun g h1 h2 => by first | exact h2 | omega)
      replace hl := hl.keep x18 (fun g h1 h2 h3 => by omega)
      replace hs10 := hs10.keep x18 (fun g h1 h2 h3 => by omega)
      refine Rg_run rfl (o_assignh (v := v27) rfl) ?_
      refine Rg_nil ?_
      refine W_region ?_
      refine Rg_run rfl (o_add rfl rfl (by first | omega | (unfold I64; omega) | (simp; done) | (simp; omega) | (simp at *; omega))) ?_
      refine Rg_run rfl (o_moveh (v := .int _ _) rfl) ?_
      refine Rg_nil ?_
      refine ⟨(k + 1, v27), ⟨?_, ?_, trivial⟩, ?_, ⟨?_, hXL4, ?_⟩, ?_⟩
      · first | rfl | (go_num) | (exact congrArg _ (by omega))
      · first | rfl | (go_num) | (exact congrArg _ (by omega))
      · repeat (first | exact off_refl _ _ | exact off_mix | refine off_put rfl ?_ | refine off_putN ?_ | refine off_setL rfl ?_ | refine off_mix' rfl ?_)
      · show k + 1 ≤ (l.filter (fun q => (l.any fun q => p == q) && withinS q p)).length; omega
      · show Own _ _ _ _ _ _ (((l.filter (fun q => (l.any fun q => p == q) && withinS q p)).take (k + 1)).filter _); rw [filt_yes (z := []) (by omega) hc2]; exact hown
      · show (l.filter (fun q => (l.any fun q => p == q) && withinS q p)).length - (k + 1) < (l.filter (fun q => (l.any fun q => p == q) && withinS q p)).length - k; omega
    · skip
      refine W_skip ?_
      refine W_region ?_
      refine Rg_run rfl (o_add rfl rfl (by first | omega | (unfold I64; omega) | (simp; done) | (simp; omega) | (simp at *; omega))) ?_
      refine Rg_run rfl (o_moveh (v := .int _ _) rfl) ?_
      refine Rg_nil ?_
      refine ⟨(k + 1, u), ⟨?_, ?_, trivial⟩, ?_, ⟨?_, hXL4, ?_⟩, ?_⟩
      · first | rfl | (go_num) | (exact congrArg _ (by omega))
      · first | rfl | (go_num) | (exact congrArg _ (by omega))
      · repeat (first | exact off_refl _ _ | exact off_mix | refine off_put rfl ?_ | refine off_putN ?_ | refine off_setL rfl ?_ | refine off_mix' rfl ?_)
      · show k + 1 ≤ (l.filter (fun q => (l.any fun q => p == q) && withinS q p)).length; omega
      · show Own _ _ _ _ _ _ (((l.filter (fun q => (l.any fun q => p == q) && withinS q p)).take (k + 1)).filter _); rw [filt_no (z := []) (by omega) hc2]; exact hown
      · show (l.filter (fun q => (l.any fun q => p == q) && withinS q p)).length - (k + 1) < (l.filter (fun q => (l.any fun q => p == q) && withinS q p)).length - k; omega
  · skip
    replace hc1 := of_decide_eq_false hc1; rw [List.take_of_length_le (by omega)] at hown
    refine W_exit ?_
    refine exAt_hit ?_
    refine W_seq ?_
    refine W_region ?_
    refine Rg_run rfl (o_moveh (v := u) rfl) ?_
    refine Rg_run rfl (o_assignh (v := u) rfl) ?_
    refine Rg_nil ?_
    refine W_ret ?_
    refine ⟨_, res_tmp rfl rfl, ?_⟩
    exact ⟨hown.mono (fun g h1 h2 => by omega), hX⟩

theorem r7add_ok (w : World) (vl : Value) (l : List Str) (hl : Rd encS 1 (Lt w.heap.size) w vl l) (nl : l.length ≤ 1000) (ol : ∀ p ∈ l, (fun p => p.length ≤ 1000000) p) (p : Str) (hp : p.length ≤ 1000000) : Ok Tryd.prog 63 #[vl, str p] w fun v w' => ∃ a c, v = .tuple #[.slice a (addR l p).1.length c, .int .i64 (addR l p).2] ∧ Sl encS 1 (Lt w'.heap.size) w' a c (addR l p).1 ∧ Ext False w w' := by
  obtain ⟨al, cl, rfl, hl⟩ := hl; have ml := hl.len
  have h8 := splitL_len p
  refine Ok_of_W 26 Tryd.func63 rfl rfl rfl ?_
  have hX : Ext False w w := Bel.refl _ _
  refine W_seq ?_
  refine W_region ?_
  refine Rg_run rfl o_assignc ?_
  refine Rg_run rfl o_assignc ?_
  refine Rg_nil ?_
  refine W_seq ?_
  refine W_seq ?_
  refine W_region ?_
  refine Rg_run rfl (o_moveh (v := str _) rfl) ?_
  refine Rg_enter rfl (o_call1 Tryd.call19 rfl) (Ok.mono (r7valid_ok _ _ (by first | assumption | omega | (simp; done) | (simp; omega) | (simp at *; omega))) ?_)
  rintro _ w1 ⟨rfl, x2⟩
  have z3 := Bel.size x2
  replace hX := Bel.ex hX x2
  replace hl := hl.ext x2
  refine Rg_run rfl (o_not rfl) ?_
  refine Rg_nil ?_
  refine W_cond rfl (fun hc1 => ?_) (fun hc1 => ?_)
  · skip
    refine W_seq ?_
    refine W_region ?_
    refine Rg_run rfl (o_moveh (v := .slice _ _ _) rfl) ?_
    refine Rg_run rfl (o_assignh (v := .slice _ _ _) rfl) ?_
    refine Rg_run rfl o_assignc ?_
    refine Rg_nil ?_
    refine W_ret ?_
    refine ⟨_, res_tmp2 rfl rfl rfl, ?_⟩
    exact ⟨_, _, by rw [addR_a (bnot_t hc1)]; rfl, by rw [addR_a (bnot_t hc1)]; exact hl.top, hX⟩
  · skip
    refine W_skip ?_
    refine W_seq ?_
    refine W_seq ?_
    refine W_region ?_
    refine Rg_run rfl (o_moveh (v := str _) rfl) ?_
    refine Rg_enter rfl (o_call1 Tryd.call31 rfl) (Ok.mono (r7anc_ok _ _ (by first | assumption | omega | (simp; done) | (simp; omega) | (simp at *; omega))) ?_)
    rintro v13 w4 ⟨hown13, x5⟩
    have z6 := Bel.size x5
    replace hX := Bel.ex hX x5
    replace hl := hl.ext x5
    obtain ⟨a13, c13, hv13, hs13⟩ := hown13.sl encS_ok; subst hv13; have hal := ancS_len p
    refine Rg_run rfl (o_llen Tryd.underlying35 rfl) ?_
    refine Rg_run rfl o_movec ?_
    refine Rg_nil ?_
    refine W_block ?_
    refine W_for (α := Nat × Value) [(0, 0), (7, 7), (15, 22)] (fun q => [(15, .int .i64 (q.1 : Int)), (0, q.2)]) (fun q w' => (q.1 ≤ (ancS p).length) ∧ Ext False w4 w' ∧ (Rd encS 1 (Lt w'.heap.size) w' q.2 (((ancS p).take q.1).foldl insP l))) (fun q => (ancS p).length - q.1) (0, .slice al l.length cl) ⟨rfl, rfl, trivial⟩ ⟨Nat.zero_le _, Bel.refl _ _, hl.trd⟩ ?_
    rintro ⟨k, u⟩ fb9 w8 ⟨hk, hXL7, hrd⟩
    dsimp only at *
    have z10 := Bel.size hXL7
    replace hX := Bel.ex hX hXL7
    replace hl := hl.ext hXL7
    replace hs13 := hs13.ext hXL7
    have hfl := fold_len ((ancS p).take k) l; rw [List.length_take] at hfl
    refine W_seq ?_
    refine W_region ?_
    refine Rg_run rfl (o_lss rfl rfl) ?_
    refine Rg_nil ?_
    refine W_seq ?_
    refine W_cond rfl (fun hc2 => ?_) (fun hc2 => ?_)
    · skip
      replace hc2 := of_decide_eq_true hc2
      refine W_skip ?_
      refine W_seq ?_
      refine W_block ?_
      refine W_seq ?_
      refine W_region ?_
      refine Rg_run rfl (o_iaR Tryd.underlying35 Tryd.sizeOf9 hs13 rfl rfl (by first | omega | (unfold I64; omega) | (simp; done) | (simp; omega) | (simp at *; omega))) ?_
      refine Rg_run rfl (o_ldR Tryd.isAgg9 hs13 rfl rfl (getE [] (by omega)) rfl) ?_
      refine Rg_run rfl (o_assignh (v := str _) rfl) ?_
      refine Rg_nil ?_
      refine W_region ?_
      refine Rg_run rfl (o_moveh (v := u) rfl) ?_
      refine Rg_run rfl (o_moveh (v := str _) rfl) ?_
      refine Rg_enter rfl (o_call2 Tryd.call78 rfl rfl) (Ok.mono (r7ins_ok _ _ _ hrd.top (by omega) (fold_ok ol (anc_ok p)) _ (anc_ok p _ (getD_mem (by omega)))) ?_)
      rintro v21 w11 ⟨hrd21, x12⟩
      have z13 := Bel.size x12
      replace hX := Bel.ex hX x12
      replace hXL7 := Bel.ex hXL7 x12
      replace hl := hl.ext x12
      replace hs13 := hs13.ext x12
      replace hrd := hrd.ext x12
      refine Rg_run rfl (o_assignh (v := v21) rfl) ?_
      refine Rg_nil ?_
      refine W_region ?_
      refine Rg_run rfl (o_add rfl rfl (by first | omega | (unfold I64; omega) | (simp; done) | (simp; omega) | (simp at *; omega))) ?_
      refine Rg_run rfl (o_moveh (v := .int _ _) rfl) ?_
      refine Rg_nil ?_
      refine ⟨(k + 1, v21), ⟨?_, ?_, trivial⟩, ?_, ⟨?_, hXL7, ?_⟩, ?_⟩
      · first | rfl | (go_num) | (exact congrArg _ (by omega))
      · first | rfl | (go_num) | (exact congrArg _ (by omega))
      · repeat (first | exact off_refl _ _ | exact off_mix | refine off_put rfl ?_ | refine off_putN ?_ | refine off_setL rfl ?_ | refine off_mix' rfl ?_)
      · show k + 1 ≤ (ancS p).length; omega
      · show Rd _ _ _ _ _ (((ancS p).take (k + 1)).foldl insP l); rw [fold_succ (by omega)]; exact hrd21.top
      · show (ancS p).length - (k + 1) < (ancS p).length - k; omega
    · skip
      replace hc2 := of_decide_eq_false hc2
      refine W_exit ?_
      refine exAt_hit ?_
      refine W_seq ?_
      refine W_region ?_
      refine Rg_run rfl (o_moveh (v := u) rfl) ?_
      refine Rg_run rfl (o_moveh (v := str _) rfl) ?_
      refine Rg_enter rfl (o_call2 Tryd.call78 rfl rfl) (Ok.mono (r7ins_ok _ _ _ hrd.top (by omega) (fold_ok ol (anc_ok p)) _ hp) ?_)
      rintro v25 w14 ⟨hrd25, x15⟩
      have z16 := Bel.size x15
      replace hX := Bel.ex hX x15
      replace hl := hl.ext x15
      replace hs13 := hs13.ext x15
      replace hrd := hrd.ext x15
      refine Rg_run rfl (o_assignh (v := v25) rfl) ?_
      refine Rg_run rfl o_assignc ?_
      refine Rg_nil ?_
      refine W_ret ?_
      refine ⟨_, res_tmp2 rfl rfl rfl, ?_⟩
      rw [List.take_of_length_le (by omega)] at hrd25; obtain ⟨a, c, rfl, hs⟩ := hrd25; exact ⟨a, c, by rw [addR_b (bnot_f hc1)]; rfl, by rw [addR_b (bnot_f hc1)]; exact hs.top, hX⟩

theorem r7rem_ok (w : World) (vl : Value) (l : List Str) (hl : Rd encS 1 (Lt w.heap.size) w vl l) (nl : l.length ≤ 1000) (ol : ∀ p ∈ l, (fun p => p.length ≤ 1000000) p) (p : Str) (hp : p.length ≤ 1000000) : Ok Tryd.prog 62 #[vl, str p] w fun v w' => ∃ a c, v = .tuple #[.slice a (remR l p).1.length c, .int .i64 (remR l p).2] ∧ Sl encS 1 (Lt w'.heap.size) w' a c (remR l p).1 ∧ Ext False w w' := by
  obtain ⟨al, cl, rfl, hl⟩ := hl; have ml := hl.len
  refine Ok_of_W 42 Tryd.func62 rfl rfl rfl ?_
  have hX : Ext False w w := Bel.refl _ _
  refine W_seq ?_
  refine W_region ?_
  refine Rg_run rfl o_assignc ?_
  refine Rg_run rfl o_assignc ?_
  refine Rg_nil ?_
  refine W_seq ?_
  refine W_seq ?_
  refine W_region ?_
  refine Rg_run rfl (o_moveh (v := str _) rfl) ?_
  refine Rg_enter rfl (o_call1 Tryd.call19 rfl) (Ok.mono (r7valid_ok _ _ (by first | assumption | omega | (simp; done) | (simp; omega) | (simp at *; omega))) ?_)
  rintro _ w1 ⟨rfl, x2⟩
  have z3 := Bel.size x2
  replace hX := Bel.ex hX x2
  replace hl := hl.ext x2
  refine Rg_run rfl (o_not rfl) ?_
  refine Rg_nil ?_
  refine W_cond rfl (fun hc1 => ?_) (fun hc1 => ?_)
  · skip
    refine W_seq ?_
    refine W_region ?_
    refine Rg_run rfl (o_moveh (v := .slice _ _ _) rfl) ?_
    refine Rg_run rfl (o_assignh (v := .slice _ _ _) rfl) ?_
    refine Rg_run rfl o_assignc ?_
    refine Rg_nil ?_
    refine W_ret ?_
    refine ⟨_, res_tmp2 rfl rfl rfl, ?_⟩
    exact ⟨_, _, by rw [remR_a (bnot_t hc1)]; rfl, by rw [remR_a (bnot_t hc1)]; exact hl.top, hX⟩
  · skip
    refine W_skip ?_
    refine W_seq ?_
    refine W_seq ?_
    refine W_region ?_
    refine Rg_run rfl (o_moveh (v := str _) rfl) ?_
    refine Rg_run rfl (o_seql rfl rfl) ?_
    refine Rg_nil ?_
    refine W_cond rfl (fun hc2 => ?_) (fun hc2 => ?_)
    · skip
      refine W_seq ?_
      refine W_region ?_
      refine Rg_run rfl (o_moveh (v := .slice _ _ _) rfl) ?_
      refine Rg_run rfl (o_assignh (v := .slice _ _ _) rfl) ?_
      refine Rg_run rfl o_assignc ?_
      refine Rg_nil ?_
      refine W_ret ?_
      refine ⟨_, res_tmp2 rfl rfl rfl, ?_⟩
      exact ⟨_, _, by rw [remR_b (bnot_f hc1) hc2]; rfl, by rw [remR_b (bnot_f hc1) hc2]; exact hl.top, hX⟩
    · skip
      refine W_skip ?_
      refine W_seq ?_
      refine W_seq ?_
      refine W_region ?_
      refine Rg_run rfl (o_moveh (v := .slice _ _ _) rfl) ?_
      refine Rg_run rfl (o_moveh (v := str _) rfl) ?_
      refine Rg_enter rfl (o_call2 Tryd.call37 rfl rfl) (Ok.mono (r7has_ok (False) _ _ _ hl.trd (by omega) ol _ hp) ?_)
      rintro _ w4 ⟨rfl, x5⟩
      have z6 := Bel.size x5
      replace hX := Bel.ex hX x5
      replace hl := hl.ext x5
      refine Rg_run rfl (o_not rfl) ?_
      refine Rg_nil ?_
      refine W_cond rfl (fun hc3 => ?_) (fun hc3 => ?_)
      · skip
        refine W_seq ?_
        refine W_region ?_
        refine Rg_run rfl (o_moveh (v := .slice _ _ _) rfl) ?_
        refine Rg_run rfl (o_assignh (v := .slice _ _ _) rfl) ?_
        refine Rg_run rfl o_assignc ?_
        refine Rg_nil ?_
        refine W_ret ?_
        refine ⟨_, res_tmp2 rfl rfl rfl, ?_⟩
        exact ⟨_, _, by rw [remR_c (bnot_f hc1) hc2 (bnot_t hc3)]; rfl, by rw [remR_c (bnot_f hc1) hc2 (bnot_t hc3)]; exact hl.top, hX⟩
      · skip
        refine W_skip ?_
        refine W_seq ?_
        refine W_seq ?_
        refine W_region ?_
        refine Rg_run rfl (o_moveh (v := .slice _ _ _) rfl) ?_
        refine Rg_run rfl (o_moveh (v := str _) rfl) ?_
        refine Rg_enter rfl (o_call2 Tryd.call40 rfl rfl) (Ok.mono (r7below_ok _ _ _ hl.trd (by omega) ol _ hp) ?_)
        rintro v23 w7 ⟨hown23, x8⟩
        have z9 := Bel.size x8
        replace hX := Bel.ex hX x8
        replace hl := hl.ext x8
        replace hown23 := hown23.mono (D' := fun g => w.heap.size ≤ g) (fun g h1 h2 => by omega)
        refine Rg_run rfl (o_llenO Tryd.underlying35 rfl hown23) ?_
        refine Rg_run rfl (o_gtr rfl rfl) ?_
        refine Rg_nil ?_
        refine W_cond rfl (fun hc4 => ?_) (fun hc4 => ?_)
        · skip
          replace hc4 := of_decide_eq_true hc4
          refine W_seq ?_
          refine W_region ?_
          refine Rg_run rfl (o_moveh (v := .slice _ _ _) rfl) ?_
          refine Rg_run rfl (o_assignh (v := .slice _ _ _) rfl) ?_
          refine Rg_run rfl o_assignc ?_
          refine Rg_nil ?_
          refine W_ret ?_
          refine ⟨_, res_tmp2 rfl rfl rfl, ?_⟩
          exact ⟨_, _, by rw [remR_d (bnot_f hc1) hc2 (bnot_f hc3) hc4]; rfl, by rw [remR_d (bnot_f hc1) hc2 (bnot_f hc3) hc4]; exact hl.top, hX⟩
        · skip
          replace hc4 := of_decide_eq_false hc4
          refine W_skip ?_
          refine W_seq ?_
          refine W_region ?_
          refine Rg_run rfl o_assignc ?_
          refine Rg_nil ?_
          refine W_seq ?_
          refine W_seq ?_
          refine W_region ?_
          refine Rg_run rfl (o_moveh (v := .slice _ _ _) rfl) ?_
          refine Rg_run rfl (o_llen Tryd.underlying35 rfl) ?_
          refine Rg_run rfl o_movec ?_
          refine Rg_nil ?_
          refine W_block ?_
          refine W_for (α := Nat × Value) [(6, 6), (8, 8), (29, 40)] (fun q => [(29, .int .i64 (q.1 : Int)), (6, q.2)]) (fun q w' => (q.1 ≤ (l).length) ∧ Bel False (fun g => w7.heap.size ≤ g) w7 w' ∧ (Own encS 1 9 (fun g => w7.heap.size ≤ g) w' q.2 (((l).take q.1).filter (fun q => q != p)))) (fun q => (l).length - q.1) (0, .slice none 0 0) ⟨rfl, rfl, trivial⟩ ⟨Nat.zero_le _, Bel.refl _ _, Own.nil _ _⟩ ?_
          rintro ⟨k, u⟩ fb12 w11 ⟨hk, hXL10, hown⟩
          dsimp only at *
          have z13 := Bel.size hXL10
          replace hX := Bel.out hX hXL10 (fun g h1 h2 => by first | exact h2 | omega)
          replace hl := hl.keep hXL10 (fun g h1 h2 h3 => by omega)
          refine W_seq ?_
          refine W_region ?_
          refine Rg_run rfl (o_lss rfl rfl) ?_
          refine Rg_nil ?_
          refine W_seq ?_
          refine W_cond rfl (fun hc5 => ?_) (fun hc5 => ?_)
          · skip
            replace hc5 := of_decide_eq_true hc5
            refine W_skip ?_
            refine W_seq ?_
            refine W_block ?_
            refine W_seq ?_
            refine W_region ?_
            refine Rg_run rfl (o_iaR Tryd.underlying35 Tryd.sizeOf9 hl rfl rfl (by first | omega | (unfold I64; omega) | (simp; done) | (simp; omega) | (simp at *; omega))) ?_
            refine Rg_run rfl (o_ldR Tryd.isAgg9 hl rfl rfl (getE [] (by omega)) rfl) ?_
            refine Rg_run rfl (o_assignh (v := str _) rfl) ?_
            refine Rg_nil ?_
            refine W_seq ?_
            refine W_region ?_
            refine Rg_run rfl (o_moveh (v := str _) rfl) ?_
            refine Rg_run rfl (o_moveh (v := str _) rfl) ?_
            refine Rg_run rfl (o_sneq rfl rfl) ?_
            refine Rg_nil ?_
            refine W_cond rfl (fun hc6 => ?_) (fun hc6 => ?_)
            · skip
              refine W_region ?_
              refine Rg_run rfl (o_moveh (v := u) rfl) ?_
              refine Rg_run rfl (o_moveh (v := str _) rfl) ?_
              refine Rg_bs (vs := [str _]) ([l.getD k []]) rfl encS_ok el_string rfl rfl ⟨rfl, trivial⟩ rfl rfl rfl rfl ?_
              intro a38 w14 x15 hown38
              have z16 := Bel.size x15
              replace hX := Bel.ex hX x15
              replace hXL10 := Bel.ex hXL10 x15
              replace hl := hl.ext x15
              replace hown := hown.ext x15
              replace hown38 := hown38.mono (D' := fun g => w7.heap.size ≤ g) (fun g h1 h2 => by omega)
              refine Rg_app rfl encS_ok el_string rfl rfl hown (hown38.slA encS_ok) rfl (by have := List.length_filter_le (fun q => q != p) (l.take k); simp at this ⊢; omega) (fun g h => by omega) ?_
              intro v39 w17 x18 hown
              have z19 := Bel.size x18
              replace hX := Bel.out hX x18 (fun g h1 h2 => by first | exact h2 | omega)
              replace hXL10 := Bel.out hXL10 x18 (fun g h1 h2 => by first | exact h2 | omega)
              replace hl := hl.keep x18 (fun g h1 h2 h3 => by omega)
              refine Rg_run rfl (o_assignh (v := v39) rfl) ?_
              refine Rg_nil ?_
              refine W_region ?_
              refine Rg_run rfl (o_add rfl rfl (by first | omega | (unfold I64; omega) | (simp; done) | (simp; omega) | (simp at *; omega))) ?_
              refine Rg_run rfl (o_moveh (v := .int _ _) rfl) ?_
              refine Rg_nil ?_
              refine ⟨(k + 1, v39), ⟨?_, ?_, trivial⟩, ?_, ⟨?_, hXL10, ?_⟩, ?_⟩
              · first | rfl | (go_num) | (exact congrArg _ (by omega))
              · first | rfl | (go_num) | (exact congrArg _ (by omega))
              · repeat (first | exact off_refl _ _ | exact off_mix | refine off_put rfl ?_ | refine off_putN ?_ | refine off_setL rfl ?_ | refine off_mix' rfl ?_)
              · show k + 1 ≤ (l).length; omega
              · show Own _ _ _ _ _ _ (((l).take (k + 1)).filter _); rw [filt_yes (z := []) (by omega) hc6]; exact hown
              · show (l).length - (k + 1) < (l).length - k; omega
            · skip
              refine W_skip ?_
              refine W_region ?_
              refine Rg_run rfl (o_add rfl rfl (by first | omega | (unfold I64; omega) | (simp; done) | (simp; omega) | (simp at *; omega))) ?_
              refine Rg_run rfl (o_moveh (v := .int _ _) rfl) ?_
              refine Rg_nil ?_
              refine ⟨(k + 1, u), ⟨?_, ?_, trivial⟩, ?_, ⟨?_, hXL10, ?_⟩, ?_⟩
              · first | rfl | (go_num) | (exact congrArg _ (by omega))
              · first | rfl | (go_num) | (exact congrArg _ (by omega))
              · repeat (first | exact off_refl _ _ | exact off_mix | refine off_put rfl ?_ | refine off_putN ?_ | refine off_setL rfl ?_ | refine off_mix' rfl ?_)
              · show k + 1 ≤ (l).length; omega
              · show Own _ _ _ _ _ _ (((l).take (k + 1)).filter _); rw [filt_no (z := []) (by omega) hc6]; exact hown
              · show (l).length - (k + 1) < (l).length - k; omega
          · skip
            replace hc5 := of_decide_eq_false hc5; rw [List.take_of_length_le (by omega)] at hown
            refine W_exit ?_
            refine exAt_hit ?_
            refine W_seq ?_
            refine W_region ?_
            refine Rg_run rfl (o_moveh (v := u) rfl) ?_
            refine Rg_run rfl (o_assignh (v := u) rfl) ?_
            refine Rg_run rfl o_assignc ?_
            refine Rg_nil ?_
            refine W_ret ?_
            refine ⟨_, res_tmp2 rfl rfl rfl, ?_⟩
            obtain ⟨a, c, rfl, hs⟩ := hown.trd encS_ok; exact ⟨a, c, by rw [remR_e (bnot_f hc1) hc2 (bnot_f hc3) hc4]; rfl, by rw [remR_e (bnot_f hc1) hc2 (bnot_f hc3) hc4]; exact hs.top, hX⟩

end Go.Proofs.YtnhbdlllkmnpfaaDoor
