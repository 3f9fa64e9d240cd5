/- Walks, printed by program: each theorem says what a function of the translation returns. -/
import Derived.Test.YtncmjgmlnnenhaaGreatDoorWnorm
import Derived.Test.YtncmjgmlnnenhaaGreatDoorWcomp
import Derived.Test.YtncmjgmlnnenhaaGreatDoorPure11f
namespace Go.Proofs.YtncmjgmlnnenhaaGreatDoor
open Go Go.Lx Go.RowKit
set_option maxRecDepth 100000
set_option linter.unusedVariables false
set_option linter.unusedSimpArgs false
set_option linter.unnecessarySimpa false
theorem pcompactV_ok (β : Prop) (B : Nat → Prop) (l : List Perm) (v : Value) (w : World) (ho : Own encP 3 75 B w v l) : Ok Tryz.prog 125 #[v] w fun v' w' => Own encP 3 75 B w' v' (compL l) ∧ Bel β B w w' := by
  obtain ⟨a, c, rfl, _⟩ := ho.sl encP_ok
  refine (pcompact_ok β a c B l w ho).mono ?_
  rintro _ w' ⟨m, rfl, h1, h2⟩
  exact ⟨h1, h2⟩

theorem pnormal_ok (w : World) (vl : Value) (l : List Perm) (hl : Rd encP 3 (Lt w.heap.size) w vl l) (nl : l.length ≤ 1000000) (ol : ∀ p ∈ l, (Perm.ok) p) : Ok Tryz.prog 71 #[vl] w fun v w' => Own encP 3 75 (Fsh w w') w' v (normS l) ∧ Ext False w w' := by
  obtain ⟨al, cl, rfl, hl⟩ := hl; have ml := hl.len
  refine Ok_of_W 30 Tryz.func71 rfl rfl rfl ?_
  have hX : Ext False w w := Bel.refl _ _
  refine W_seq (W_region ?_)
  refine Rg_run rfl o_assignc ?_
  refine Rg_nil (W_seq (W_region ?_))
  refine Rg_run rfl o_assignc ?_
  refine Rg_nil (W_seq (W_seq (W_region ?_)))
  refine Rg_run rfl (o_moveh (v := .slice _ _ _) rfl) ?_
  refine Rg_run rfl (o_llen Tryz.underlying70 rfl) ?_
  refine Rg_run rfl o_movec ?_
  refine Rg_nil (W_block ?_)
  refine W_for (α := Nat × Value) [(3, 3), (5, 5), (8, 25)] (fun p => [(8, .int .i64 (p.1 : Int)), (3, p.2)]) (fun p w' => (p.1 ≤ l.length) ∧ Bel False ((Ge w.heap.size)) w w' ∧ (Own encP 3 75 (Ge w.heap.size) w' p.2 ((l.take p.1).filter (keepS l)))) (fun p => l.length - p.1) (0, .slice none 0 0) ⟨rfl, rfl, trivial⟩ ⟨Nat.zero_le _, Bel.refl _ _, Own.nil _ _⟩ ?_
  rintro p fb3 w2 ⟨hk, hXL1, hown⟩
  have z4 := Bel.size hXL1
  replace hX := Bel.out hX hXL1 (fun g h1 h2 => by first | exact h2 | omega)
  replace hl := hl.keep hXL1 (fun g h1 h2 h3 => by omega)
  refine W_seq (W_region ?_)
  refine Rg_run rfl (o_lss rfl rfl) ?_
  refine Rg_nil (W_seq ?_)
  refine W_cond rfl (fun hc1 => ?_) (fun hc1 => ?_)
  · skip
    replace hc1 := of_decide_eq_true hc1
    refine W_skip (W_seq (W_block (W_seq (W_region ?_))))
    refine Rg_run rfl (o_iaR Tryz.underlying70 Tryz.sizeOf75 hl rfl rfl (by first | omega | (unfold I64; omega) | (simp; done) | (simp; omega) | (simp at *; omega))) ?_
    refine Rg_run rfl (o_ldRS Tryz.isAgg75 Tryz.sizeOf75 hl rfl (getE pz (by omega))) ?_
    refine Rg_alst rfl rfl Tryz.zeroValue75 rfl Tryz.sizeOf75 (fun _ => rfl) rfl rfl ?_
    intro b5 w5 x6 hge5 hb5
    have hlt5 := hb5.lt
    have z7 := Bel.size x6
    replace hX := Bel.ex hX x6
    replace hXL1 := Bel.ex hXL1 x6
    replace hl := hl.ext x6
    replace hown := hown.ext x6
    refine Rg_nil (W_seq (W_region ?_))
    refine Rg_run rfl (o_loadS Tryz.isAgg75 Tryz.sizeOf75 rfl hb5.at rfl) ?_
    refine Rg_enter rfl (o_call1 Tryz.call77 rfl) (Ok.mono (check_ok (False) _ (ol _ (getD_mem (by omega))) _) ?_)
    rintro _ w8 ⟨rfl, x9⟩
    have z10 := Bel.size x9
    replace hX := Bel.ex hX x9
    replace hXL1 := Bel.ex hXL1 x9
    replace hl := hl.ext x9
    replace hown := hown.ext x9
    replace hb5 := hb5.ext x9
    refine Rg_run rfl (o_eql rfl rfl) ?_
    refine Rg_run rfl (o_moveh (v := .bool _) rfl) ?_
    refine Rg_may 3 15 rfl rfl rfl (fun hg => (o_moveh (v := .slice _ _ _) rfl)) ?_
    refine Rg_may 3 15 rfl rfl rfl (fun hg => (o_fn1 rfl)) ?_
    refine Rg_mayCall 3 15 rfl rfl rfl (fun hg => ⟨(o_call2 Tryz.call121 (gsel (u := undef) hg) (gsel (u := undef) hg)), pcontf_ok (False) _ _ _ _ 122 #[.pointer (some ⟨b5, 0, none⟩)] (fun q => !(q == l.getD p.1 pz) && impliesS q (l.getD p.1 pz)) _ hl Tryz.call122 (fun q hq w' hw' => norm1_ok False q (l.getD p.1 pz) b5 w' (ol q hq) (ol _ (getD_mem (by omega))) (hb5.at.ext hw'))⟩) ?_
    intro w11 x12
    have z13 := Bel.size x12
    replace hX := Bel.ex hX x12
    replace hXL1 := Bel.ex hXL1 x12
    replace hown := hown.ext x12
    replace hb5 := hb5.ext x12
    refine Rg_may 3 15 rfl rfl rfl (fun hg => (o_not (gsel (u := undef) hg))) ?_
    refine Rg_run rfl (o_and (u := undef) rfl rfl) ?_
    refine Rg_nil ?_
    refine W_cond rfl (fun hc2 => ?_) (fun hc2 => ?_)
    · skip
      first | replace hc2 := of_decide_eq_true hc2 | replace hc2 := bnot_t hc2 | skip
      refine W_region ?_
      refine Rg_run rfl (o_moveh (v := p.2) rfl) ?_
      refine Rg_run rfl (o_loadS Tryz.isAgg75 Tryz.sizeOf75 rfl hb5.at rfl) ?_
      refine Rg_bs (vs := [.agg _]) ([l.getD p.1 pz]) rfl encP_ok el_perm rfl rfl ⟨rfl, trivial⟩ rfl rfl rfl rfl ?_
      intro a23 w14 x15 hown23
      have z16 := Bel.size x15
      replace hX := Bel.ex hX x15
      replace hXL1 := Bel.ex hXL1 x15
      replace hown := hown.ext x15
      replace hown23 := hown23.mono (D' := fun g => w.heap.size ≤ g) (fun g h1 h2 => by omega)
      refine Rg_app rfl encP_ok el_perm rfl rfl hown (hown23.slA encP_ok) rfl (by have := List.length_filter_le (keepS l) (l.take p.1); simp at this ⊢; omega) (fun g h => by omega) ?_
      intro v24 w17 x18 hown
      have z19 := Bel.size x18
      replace hX := Bel.out hX x18 (fun g h1 h2 => by first | exact h2 | omega)
      replace hXL1 := Bel.out hXL1 x18 (fun g h1 h2 => by first | exact h2 | omega)
      refine Rg_run rfl (o_assignh (v := v24) rfl) ?_
      refine Rg_nil (W_region ?_)
      refine Rg_run rfl (o_add rfl rfl (by first | omega | (unfold I64; omega) | (simp; done) | (simp; omega) | (simp at *; omega))) ?_
      refine Rg_run rfl (o_moveh (v := .int _ _) rfl) ?_
      refine Rg_nil ?_
      refine ⟨(p.1 + 1, v24), ⟨?_, ?_, trivial⟩, ?_, ⟨?_, hXL1, ?_⟩, ?_⟩
      · first | rfl | (go_num) | (exact congrArg _ (by omega))
      · first | rfl | (go_num) | (exact congrArg _ (by omega))
      · repeat (first | exact off_refl _ _ | exact off_mix | refine off_put rfl ?_ | refine off_putN ?_ | refine off_setL rfl ?_ | refine off_mix' rfl ?_)
      · show p.1 + 1 ≤ l.length; omega
      · show Own _ _ _ _ _ _ ((l.take (p.1 + 1)).filter _); rw [filt_yes (z := pz) (by omega) hc2]; exact hown
      · show l.length - (p.1 + 1) < _; omega
    first | replace hc2 := of_decide_eq_false hc2 | replace hc2 := bnot_f hc2 | skip
    refine W_skip (W_region ?_)
    refine Rg_run rfl (o_add rfl rfl (by first | omega | (unfold I64; omega) | (simp; done) | (simp; omega) | (simp at *; omega))) ?_
    refine Rg_run rfl (o_moveh (v := .int _ _) rfl) ?_
    refine Rg_nil ?_
    refine ⟨(p.1 + 1, p.2), ⟨?_, ?_, trivial⟩, ?_, ⟨?_, hXL1, ?_⟩, ?_⟩
    · first | rfl | (go_num) | (exact congrArg _ (by omega))
    · first | rfl | (go_num) | (exact congrArg _ (by omega))
    · repeat (first | exact off_refl _ _ | exact off_mix | refine off_put rfl ?_ | refine off_putN ?_ | refine off_setL rfl ?_ | refine off_mix' rfl ?_)
    · show p.1 + 1 ≤ l.length; omega
    · show Own _ _ _ _ _ _ ((l.take (p.1 + 1)).filter _); rw [filt_no (z := pz) (by omega) hc2]; exact hown
    · show l.length - (p.1 + 1) < _; omega
  rw [List.take_of_length_le (by have := of_decide_eq_false hc1; omega)] at hown
  refine W_exit (exAt_hit (W_seq (W_region ?_)))
  refine Rg_run rfl (o_moveh (v := p.2) rfl) ?_
  refine Rg_enter rfl (o_call2 Tryz.call123 rfl rfl) (Ok.mono (sortp_ok _ _ _ _ hown (by have := List.length_filter_le (keepS l) l; omega) (keepS_vp ol)) ?_)
  rintro _ w20 ⟨rfl, x21, l2, hperm, hpw, hown⟩
  have z22 := Bel.size x21
  replace hX := Bel.out hX x21 (fun g h1 h2 => by first | exact h2 | omega)
  refine Rg_nil (W_seq (W_region ?_))
  refine Rg_run rfl (o_moveh (v := p.2) rfl) ?_
  refine Rg_enter rfl (o_call1 Tryz.call125 rfl) (Ok.mono (pcompactV_ok False _ _ _ _ hown) ?_)
  rintro v29 w23 ⟨hown, x24⟩
  have z25 := Bel.size x24
  replace hX := Bel.out hX x24 (fun g h1 h2 => by first | exact h2 | omega)
  refine Rg_run rfl (o_assignh (v := v29) rfl) ?_
  refine Rg_nil (W_ret ?_)
  refine ⟨_, res_tmp rfl rfl, ?_⟩
  rw [comp_insP (keepS_vp ol) hperm hpw] at hown
  exact ⟨hown.mono (fun g h1 h2 => by omega), hX⟩

end Go.Proofs.YtncmjgmlnnenhaaGreatDoor
