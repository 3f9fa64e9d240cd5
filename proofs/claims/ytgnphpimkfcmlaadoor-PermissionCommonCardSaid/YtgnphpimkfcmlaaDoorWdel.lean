/- Walks, printed by program: each theorem says what a function of the translation returns. -/
import Derived.Test.YtgnphpimkfcmlaaDoorWnorm
import Derived.Test.YtgnphpimkfcmlaaDoorOwn2
namespace Go.Proofs.YtgnphpimkfcmlaaDoor
open Go Go.Lx Go.RowKit
set_option maxRecDepth 100000
set_option linter.unusedVariables false
set_option linter.unusedSimpArgs false
set_option linter.unnecessarySimpa false
theorem pdelete_ok (β : Prop) (a : Option Addr) (c : Nat) (B : Nat → Prop) (l : List Perm) (fid : FuncId) (cs : Array Value) (q : Perm → Bool) (w : World) (ho : Own encP 3 27 B w (.slice a l.length c) l) (hent : ∀ args w, (callFunc fid args).run Tryd.prog w = .ok (.enter fid args) w) (hq : ∀ x ∈ l, ∀ w', Bel β B w w' → Ok Tryd.prog fid (#[.agg (encP x).toArray] ++ cs) w' fun v w'' => v = .bool (q x) ∧ Ext β w' w'') : Ok Tryd.prog 58 #[.slice a l.length c, .func (.func fid) #[] cs] w fun v w' => ∃ m, v = .slice a m c ∧ Own encP 3 27 B w' (.slice a m c) (l.filter fun x => !q x) ∧ Bel β B w w' := by
  have hs := ho.slA encP_ok; have hlen := hs.len; have hcap := ho.capOf.1
  refine Ok_of_W 42 Tryd.func58 rfl rfl rfl ?_
  have hX : Bel β (B) w w := Bel.refl _ _
  refine W_seq ?_
  refine W_region ?_
  refine Rg_run rfl o_assignc ?_
  refine Rg_nil ?_
  refine W_seq ?_
  refine W_region ?_
  refine Rg_run rfl (o_moveh (v := .slice _ _ _) rfl) ?_
  refine Rg_run rfl (o_moveh (v := .func _ _ _) rfl) ?_
  refine Rg_enter rfl (o_call2 Tryd.call74 rfl rfl) (Ok.mono (pidxf_ok (β) _ _ _ _ _ _ _ _ hs hent (fun x hx w' hw => hq x hx w' (hw.mono fun _ _ h => h.elim))) ?_)
  rintro _ w1 ⟨rfl, x2⟩
  have z3 := Bel.size x2
  replace hX := Bel.ex hX x2
  replace ho := ho.ext x2
  replace hs := hs.ext x2
  refine Rg_run rfl (o_assignh (v := .int _ _) rfl) ?_
  refine Rg_nil ?_
  refine W_seq ?_
  refine W_seq ?_
  refine W_region ?_
  refine Rg_run rfl (o_moveh (v := .int _ _) rfl) ?_
  refine Rg_run rfl (o_eql rfl rfl) ?_
  refine Rg_nil ?_
  refine W_cond rfl (fun hc1 => ?_) (fun hc1 => ?_)
  · skip
    have hnone := ix_none hc1
    refine W_seq ?_
    refine W_region ?_
    refine Rg_run rfl (o_moveh (v := .slice _ _ _) rfl) ?_
    refine Rg_run rfl (o_assignh (v := .slice _ _ _) rfl) ?_
    refine Rg_nil ?_
    refine W_ret ?_
    refine ⟨_, res_tmp rfl rfl, ?_⟩
    exact ⟨_, rfl, by rw [filt_none hnone]; exact ho, hX⟩
  · skip
    obtain ⟨i, hi, hil, hit1, hit2⟩ := ix_some pz hc1
    rw [hi]
    refine W_skip ?_
    refine W_seq ?_
    refine W_seq ?_
    refine W_region ?_
    refine Rg_run rfl (o_moveh (v := .int _ _) rfl) ?_
    refine Rg_run rfl (o_add rfl rfl (by first | omega | (unfold I64; omega) | (simp; done) | (simp; omega) | (simp at *; omega))) ?_
    refine Rg_run rfl (o_assignh (v := .int _ _) rfl) ?_
    refine Rg_nil ?_
    refine W_block ?_
    refine W_for (α := List Perm × Nat × Nat) [(5, 7), (16, 35)] (fun p => [(5, .int .i64 (p.2.2 : Int)), (6, .int .i64 (p.2.1 : Int))]) (fun p w' => (p.2.1 ≤ l.length ∧ p.1 = (l.take p.2.1).filter (fun x => !q x) ∧ p.1.length = p.2.2 ∧ p.2.2 + 1 ≤ p.2.1) ∧ Bel β (B) w1 w' ∧ (Own encP 3 27 B w' (.slice a l.length c) (p.1 ++ l.drop p.1.length))) (fun p => l.length - p.2.1) (l.take i, i + 1, i) ⟨rfl, rfl, trivial⟩ ⟨⟨by show i + 1 ≤ l.length; omega, by rw [filt_no (z := pz) (by omega) (by rw [hit2]; rfl), filt_none hit1], by simp; omega, Nat.le_refl _⟩, Bel.refl _ _, (by rw [List.length_take, Nat.min_eq_left (by omega), List.take_append_drop]; exact ho)⟩ ?_
    rintro p fb6 w5 ⟨⟨hp1, hp2, hp3, hp4⟩, hXL4, hown⟩
    have z7 := Bel.size hXL4
    replace hX := Bel.out hX hXL4 (fun g h1 h2 => by first | exact h2 | omega)
    have hs := hown.slA encP_ok
    refine W_seq ?_
    refine W_seq ?_
    refine W_region ?_
    refine Rg_run rfl (o_moveh (v := .int _ _) rfl) ?_
    refine Rg_run rfl (o_moveh (v := .slice _ _ _) rfl) ?_
    refine Rg_run rfl (o_llen Tryd.underlying46 rfl) ?_
    refine Rg_run rfl (o_lss rfl rfl) ?_
    refine Rg_nil ?_
    refine W_cond rfl (fun hc2 => ?_) (fun hc2 => ?_)
    · skip
      first | replace hc2 := of_decide_eq_true hc2 | replace hc2 := bnot_t hc2 | skip
      refine W_skip ?_
      refine W_seq ?_
      refine W_block ?_
      refine W_seq ?_
      refine W_region ?_
      refine Rg_run rfl (o_moveh (v := .slice _ _ _) rfl) ?_
      refine Rg_run rfl (o_moveh (v := .int _ _) rfl) ?_
      refine Rg_run rfl (o_iaO Tryd.underlying46 Tryd.sizeOf27 hown rfl rfl (by omega)) ?_
      refine Rg_run rfl (o_ldRS Tryd.isAgg27 Tryd.sizeOf27 hs rfl (tail_get (z := pz) (by omega) (by omega))) ?_
      refine Rg_alst rfl rfl Tryd.zeroValue27 rfl Tryd.sizeOf27 (fun _ => rfl) rfl rfl ?_
      intro b7 w8 x9 hge7 hb7
      have hlt7 := hb7.lt
      have z10 := Bel.size x9
      replace hX := Bel.ex hX x9
      replace hXL4 := Bel.ex hXL4 x9
      replace hown := hown.ext x9
      replace hs := hs.ext x9
      refine Rg_nil ?_
      refine W_seq ?_
      refine W_region ?_
      refine Rg_run rfl (o_moveh (v := .func _ _ _) rfl) ?_
      refine Rg_run rfl (o_loadS Tryd.isAgg27 Tryd.sizeOf27 rfl hb7.at rfl) ?_
      refine Rg_enter rfl (o_clo1 hent rfl rfl) (Ok.mono (hq _ (getD_mem (by omega)) _ hX) ?_)
      rintro _ w11 ⟨rfl, x12⟩
      have z13 := Bel.size x12
      replace hX := Bel.ex hX x12
      replace hXL4 := Bel.ex hXL4 x12
      replace hown := hown.ext x12
      replace hs := hs.ext x12
      replace hb7 := hb7.ext x12
      refine Rg_run rfl (o_not rfl) ?_
      refine Rg_nil ?_
      refine W_cond rfl (fun hc3 => ?_) (fun hc3 => ?_)
      · skip
        first | replace hc3 := of_decide_eq_true hc3 | replace hc3 := bnot_t hc3 | skip
        refine W_seq ?_
        refine W_region ?_
        refine Rg_run rfl (o_moveh (v := .slice _ _ _) rfl) ?_
        refine Rg_run rfl (o_moveh (v := .int _ _) rfl) ?_
        refine Rg_run rfl (o_loadS Tryd.isAgg27 Tryd.sizeOf27 rfl hb7.at rfl) ?_
        refine Rg_run rfl (o_iaO Tryd.underlying46 Tryd.sizeOf27 hown rfl rfl (by omega)) ?_
        refine Rg_elst (u := l.getD p.2.1 pz) rfl encP_ok Tryd.sizeOf27 rfl rfl rfl hown (by simp; omega) ?_
        intro w14 x15 hown
        have z16 := Bel.size x15
        replace hX := Bel.out hX x15 (fun g h1 h2 => by first | exact h2 | omega)
        replace hXL4 := Bel.out hXL4 x15 (fun g h1 h2 => by first | exact h2 | omega)
        refine Rg_nil ?_
        refine W_region ?_
        refine Rg_run rfl (o_moveh (v := .int _ _) rfl) ?_
        refine Rg_run rfl (o_add rfl rfl (by first | omega | (unfold I64; omega) | (simp; done) | (simp; omega) | (simp at *; omega))) ?_
        refine Rg_run rfl (o_assignh (v := .int _ _) rfl) ?_
        refine Rg_nil ?_
        refine W_region ?_
        refine Rg_run rfl (o_moveh (v := .int _ _) rfl) ?_
        refine Rg_run rfl (o_add rfl rfl (by first | omega | (unfold I64; omega) | (simp; done) | (simp; omega) | (simp at *; omega))) ?_
        refine Rg_run rfl (o_assignh (v := .int _ _) rfl) ?_
        refine Rg_nil ?_
        refine ⟨(p.1 ++ [l.getD p.2.1 pz], p.2.1 + 1, p.2.2 + 1), ⟨?_, ?_, trivial⟩, ?_, ⟨?_, hXL4, ?_⟩, ?_⟩
        · first | rfl | (go_num) | (exact congrArg _ (by omega))
        · first | rfl | (go_num) | (exact congrArg _ (by omega))
        · repeat (first | exact off_refl _ _ | exact off_mix | refine off_put rfl ?_ | refine off_putN ?_ | refine off_setL rfl ?_ | refine off_mix' rfl ?_)
        · exact ⟨by show p.2.1 + 1 ≤ l.length; omega, by rw [filt_yes (z := pz) (by omega) (by rw [hc3]; rfl), ← hp2], by simp [hp3], by show p.2.2 + 1 + 1 ≤ p.2.1 + 1; omega⟩
        · rw [← hp3, tail_set (by omega)] at hown; exact hown
        · show l.length - (p.2.1 + 1) < _; omega
      · skip
        first | replace hc3 := of_decide_eq_false hc3 | replace hc3 := bnot_f hc3 | skip
        refine W_skip ?_
        refine W_region ?_
        refine Rg_run rfl (o_moveh (v := .int _ _) rfl) ?_
        refine Rg_run rfl (o_add rfl rfl (by first | omega | (unfold I64; omega) | (simp; done) | (simp; omega) | (simp at *; omega))) ?_
        refine Rg_run rfl (o_assignh (v := .int _ _) rfl) ?_
        refine Rg_nil ?_
        refine ⟨(p.1, p.2.1 + 1, p.2.2), ⟨?_, ?_, trivial⟩, ?_, ⟨?_, hXL4, ?_⟩, ?_⟩
        · first | rfl | (go_num) | (exact congrArg _ (by omega))
        · first | rfl | (go_num) | (exact congrArg _ (by omega))
        · repeat (first | exact off_refl _ _ | exact off_mix | refine off_put rfl ?_ | refine off_putN ?_ | refine off_setL rfl ?_ | refine off_mix' rfl ?_)
        · exact ⟨by show p.2.1 + 1 ≤ l.length; omega, by rw [filt_no (z := pz) (by omega) (by rw [hc3]; rfl), ← hp2], hp3, by show p.2.2 + 1 ≤ p.2.1 + 1; omega⟩
        · exact hown
        · show l.length - (p.2.1 + 1) < _; omega
    · skip
      first | replace hc2 := of_decide_eq_false hc2 | replace hc2 := bnot_f hc2 | skip
      refine W_exit ?_
      refine exAt_hit ?_
      refine W_seq ?_
      refine W_region ?_
      refine Rg_run rfl (o_moveh (v := .slice _ _ _) rfl) ?_
      refine Rg_run rfl (o_moveh (v := .int _ _) rfl) ?_
      refine Rg_run rfl (o_sfromO (j := p.2.2) Tryd.underlying46 Tryd.sizeOf27 rfl rfl (by omega) (by omega)) ?_
      refine Rg_clear pz encP_ok el_perm rfl rfl hown (by simp; omega) (by simp; omega) ?_
      intro w17 x18 hown
      have z19 := Bel.size x18
      replace hX := Bel.out hX x18 (fun g h1 h2 => by first | exact h2 | omega)
      refine Rg_nil ?_
      refine W_seq ?_
      refine W_region ?_
      refine Rg_run rfl (o_moveh (v := .slice _ _ _) rfl) ?_
      refine Rg_run rfl (o_moveh (v := .int _ _) rfl) ?_
      refine Rg_run rfl (o_slto Tryd.underlying46 Tryd.sizeOf27 rfl rfl (by first | omega | (unfold I64; omega) | (simp; done) | (simp; omega) | (simp at *; omega))) ?_
      refine Rg_run rfl (o_assignh (v := .slice _ _ _) rfl) ?_
      refine Rg_nil ?_
      refine W_ret ?_
      refine ⟨_, res_tmp rfl rfl, ?_⟩
      have e : l.filter (fun x => !q x) = p.1 := by rw [hp2, List.take_of_length_le (by omega)]
      exact ⟨_, rfl, by rw [e]; exact hown.cutTo encP_ok hp3, hX⟩

end Go.Proofs.YtgnphpimkfcmlaaDoor
