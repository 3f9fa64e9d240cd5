/- Walks, printed by program: each theorem says what a function of the translation returns. -/
import Derived.Test.YtndlnfdaeipifaaGreatDoorWgr
import Derived.Test.YtndlnfdaeipifaaGreatDoorWod
import Derived.Test.YtndlnfdaeipifaaGreatDoorGn
namespace Go.Proofs.YtndlnfdaeipifaaGreatDoor
open Go Go.Lx Go.RowKit
set_option maxRecDepth 100000
set_option linter.unusedVariables false
set_option linter.unusedSimpArgs false
set_option linter.unnecessarySimpa false
theorem oabove_ok (w : World) (po : Nat) (o : OV) (Fo : Nat → Prop) (ho : OdAt Fo w po o) (a : Int) (hr : I64 a) : Ok Tryz.prog 149 #[.pointer (some ⟨po, 0, none⟩), .int .i64 a] w fun v w' => ∃ x c, v = .agg (encSV ⟨x, c, aboO o a⟩).toArray ∧ Sl encU 1 Fo w' x c (wl (aboO o a)) ∧ Ext False w w' := by
  replace ho := ho.mono (F' := fun g => Fo g ∧ g < w.heap.size) (fun g h1 h2 => ⟨h2, h1⟩)
  have hoa := ho.at'
  have hol := ho.lt
  refine Ok_of_W 17 Tryz.func149 rfl rfl rfl ?_
  have hX : Ext False w w := Bel.refl _ _
  refine W_seq ?_
  refine W_region ?_
  refine Rg_newB rfl (o_alloc Tryz.zeroValue58) ?_
  intro b4 w1 x2 hge4 hb4
  have hlt4 := hb4.lt
  change Box _ _ _ ([.slice _ _ _]) at hb4
  have z3 := Bel.size x2
  replace hX := Bel.ex hX x2
  replace hoa := hoa.ext x2
  replace ho := ho.ext x2
  refine Rg_nil ?_
  refine W_seq ?_
  refine W_seq ?_
  refine W_region ?_
  refine Rg_run rfl (o_moveh (v := .pointer _) rfl) ?_
  refine Rg_run rfl (o_moveh (v := .int _ _) rfl) ?_
  refine Rg_enter rfl (o_call2 Tryz.call143 rfl rfl) (Ok.mono (oin_ok _ _ _ _ ho _) ?_)
  rintro _ w4 ⟨rfl, x5⟩
  have z6 := Bel.size x5
  replace hX := Bel.ex hX x5
  replace hoa := hoa.ext x5
  replace ho := ho.ext x5
  replace hb4 := hb4.ext x5
  refine Rg_run rfl (o_not rfl) ?_
  refine Rg_nil ?_
  refine W_cond rfl (fun hc1 => ?_) (fun hc1 => ?_)
  · skip
    have hb1 : aboO o a = 0 := by unfold aboO; rw [if_neg (by simp at hc1; omega)]
    refine W_seq ?_
    refine W_region ?_
    refine Rg_run rfl (o_build (cells := encSV ⟨none, 0, 0⟩) (vs := []) rfl (by kernel_rfl)) ?_
    refine Rg_storeW (v := .agg _) rfl Tryz.sizeOf58 rfl rfl hb4 rfl rfl rfl ?_
    intro w7 c8 hb4
    change Box _ _ _ (encSV _) at hb4
    have z9 := Bel.size c8
    replace hX := Bel.out hX c8 (fun g h1 h2 => by first | exact h2 | omega)
    refine Rg_nil ?_
    refine W_ret ?_
    refine ⟨_, res_1 (v := .agg _) rfl (rv_cellS Tryz.isAgg58 Tryz.sizeOf58 rfl hb4.at rfl), ?_⟩
    rw [hb1]; exact ⟨_, _, rfl, Sl.none, hX⟩
  · skip
    have hin : 0 ≤ a ∧ a < (o.n : Int) := by simpa using hc1
    obtain ⟨an, rfl⟩ : ∃ n : Nat, a = n := ⟨a.toNat, by omega⟩
    have hln := ho.la
    refine W_skip ?_
    refine W_seq ?_
    refine W_region ?_
    refine Rg_run rfl (o_moveh (v := .pointer _) rfl) ?_
    refine Rg_run rfl (o_nilc rfl) ?_
    refine Rg_run rfl (o_fa Tryz.underlying186 rfl Tryz.sizeOf184 rfl) ?_
    refine Rg_run rfl (o_load1 Tryz.isAgg184 rfl (hoa.get 2 rfl)) ?_
    refine Rg_run rfl (o_moveh (v := .int _ _) rfl) ?_
    refine Rg_run rfl (o_iaR Tryz.underlying184 Tryz.sizeOf58 ho.ab rfl rfl (by first | omega | (unfold I64; omega) | (simp; done) | (simp; omega) | (simp at *; omega))) ?_
    refine Rg_run rfl (o_ldRS Tryz.isAgg58 Tryz.sizeOf58 ho.ab rfl (getE sz (by omega))) ?_
    refine Rg_storeW (v := .agg _) rfl Tryz.sizeOf58 rfl rfl hb4 rfl rfl rfl ?_
    intro w10 c11 hb4
    change Box _ _ _ (encSV _) at hb4
    have z12 := Bel.size c11
    replace hX := Bel.out hX c11 (fun g h1 h2 => by first | exact h2 | omega)
    replace ho := ho.keep c11 (fun g h1 h2 h3 => by omega)
    refine Rg_nil ?_
    refine W_ret ?_
    refine ⟨_, res_1 (v := .agg _) rfl (rv_cellS Tryz.isAgg58 Tryz.sizeOf58 rfl hb4.at rfl), ?_⟩
    have e1 : aboO o (an : Int) = (o.above.getD an sz).x := by unfold aboO; rw [if_pos hin]; rfl
    rw [e1]; exact ⟨_, _, rfl, (ho.wa _ (gm (by omega))).mono (fun g h1 h2 => h2.1), hX⟩

theorem oless_ok (w : World) (po : Nat) (o : OV) (Fo : Nat → Prop) (ho : OdAt Fo w po o) (a : Int) (b : Int) (hr : I64 a) (hr2 : I64 b) : Ok Tryz.prog 104 #[.pointer (some ⟨po, 0, none⟩), .int .i64 a, .int .i64 b] w fun v w' => v = .bool (hasW (aboO o a) b) ∧ Ext False w w' := by
  replace ho := ho.mono (F' := fun g => Fo g ∧ g < w.heap.size) (fun g h1 h2 => ⟨h2, h1⟩)
  have hoa := ho.at'
  have hol := ho.lt
  refine Ok_of_W 12 Tryz.func104 rfl rfl rfl ?_
  have hX : Ext False w w := Bel.refl _ _
  refine W_seq ?_
  refine W_region ?_
  refine Rg_run rfl o_assignc ?_
  refine Rg_nil ?_
  refine W_seq ?_
  refine W_region ?_
  refine Rg_run rfl (o_moveh (v := .pointer _) rfl) ?_
  refine Rg_run rfl (o_moveh (v := .int _ _) rfl) ?_
  refine Rg_enter rfl (o_call2 Tryz.call149 rfl rfl) (Ok.mono (oabove_ok _ _ _ _ ho _ hr) ?_)
  rintro _ w1 ⟨a9, c9, rfl, hq9, x2⟩
  replace hX := Bel.ex hX x2
  replace hoa := hoa.ext x2
  replace ho := ho.ext x2
  refine Rg_run rfl (o_moveh (v := .int _ _) rfl) ?_
  refine Rg_enter rfl (o_call2 Tryz.call74 rfl rfl) (Ok.mono (bhas_ok _ ⟨_, _, _⟩ _ hq9 _ hr2) ?_)
  rintro _ w3 ⟨rfl, x4⟩
  replace hX := Bel.ex hX x4
  replace hoa := hoa.ext x4
  replace ho := ho.ext x4
  replace hq9 := hq9.ext x4
  refine Rg_run rfl (o_assignh (v := .bool _) rfl) ?_
  refine Rg_nil ?_
  refine W_ret ?_
  refine ⟨_, res_tmp rfl rfl, ?_⟩
  refine ⟨congrArg Value.bool ?_, hX⟩
  all_goals (rfl)

theorem himp_ok (ph po : Nat) (o : OV) (L : List Pr) (Fh : Nat → Prop) (r s : Int) (w : World) (hha : At w ph 0 [.pointer (some ⟨po, 0, none⟩)]) (ho : OdAt Fh w po o) (hk : HOk o L) (hr : I64 r) (hs : I64 s) : Ok Tryz.prog 53 #[.pointer (some ⟨ph, 0, none⟩), .int .i64 r, .int .i64 s] w fun v w' => v = .bool (impLk L r s) ∧ Ext False w w' := by
  replace ho := ho.mono (F' := fun g => Fh g ∧ g < w.heap.size) (fun g h1 h2 => ⟨h2, h1⟩)
  have hl1 := hha.lt; have hl2 := ho.lt
  refine Ok_of_W 31 Tryz.func53 rfl rfl rfl ?_
  have hX : Ext False w w := Bel.refl _ _
  refine W_seq ?_
  refine W_region ?_
  refine Rg_run rfl o_assignc ?_
  refine Rg_nil ?_
  refine W_seq ?_
  refine W_region ?_
  refine Rg_run rfl (o_moveh (v := .pointer _) rfl) ?_
  refine Rg_run rfl (o_pne Tryz.underlying29 rfl rfl) ?_
  refine Rg_run rfl (o_moveh (v := .bool _) rfl) ?_
  refine (Decidable.em ((decide (1 ≤ r) && decide (r ≤ 63)) = true)).elim (fun hf1 => ?_) (fun hf1 => ?_)
  · skip
    refine Rg_on 2 9 rfl rfl ?_
    refine Rg_run rfl (o_moveh (v := .int _ _) rfl) ?_
    refine Rg_on 2 9 rfl rfl ?_
    refine Rg_enter rfl (o_call1 Tryz.call98 rfl) (Ok.mono (hrole_ok _ _) ?_)
    rintro _ w1 ⟨rfl, x2⟩
    replace hX := Bel.ex hX x2
    replace hha := hha.ext x2
    replace ho := ho.ext x2
    refine Rg_run rfl (o_pickT (v := .bool _) rfl rfl) ?_
    refine Rg_run rfl (o_moveh (v := .bool _) rfl) ?_
    refine (Decidable.em ((decide (1 ≤ s) && decide (s ≤ 63)) = true)).elim (fun hf2 => ?_) (fun hf2 => ?_)
    · skip
      refine Rg_on 6 13 rfl (congrArg Value.bool hf1) ?_
      refine Rg_run rfl (o_moveh (v := .int _ _) rfl) ?_
      refine Rg_on 6 13 rfl (congrArg Value.bool hf1) ?_
      refine Rg_enter rfl (o_call1 Tryz.call98 rfl) (Ok.mono (hrole_ok _ _) ?_)
      rintro _ w3 ⟨rfl, x4⟩
      replace hX := Bel.ex hX x4
      replace hha := hha.ext x4
      replace ho := ho.ext x4
      refine Rg_run rfl (o_pickT (v := .bool _) (congrArg Value.bool hf1) rfl) ?_
      refine Rg_run rfl (o_moveh (v := .bool _) rfl) ?_
      refine (Decidable.em (r = s)).elim (fun hf3 => ?_) (fun hf3 => ?_)
      · skip
        refine Rg_on 10 17 rfl (congrArg Value.bool hf2) ?_
        refine Rg_run rfl (o_moveh (v := .int _ _) rfl) ?_
        refine Rg_on 10 17 rfl (congrArg Value.bool hf2) ?_
        refine Rg_run rfl (o_moveh (v := .int _ _) rfl) ?_
        refine Rg_on 10 17 rfl (congrArg Value.bool hf2) ?_
        refine Rg_run rfl (o_eql rfl rfl) ?_
        refine Rg_on 10 17 rfl (congrArg Value.bool hf2) ?_
        refine Rg_run rfl (o_moveh (v := .bool _) rfl) ?_
        refine Rg_off 14 21 rfl rfl (congrArg Value.bool (beq_iff_eq.2 hf3)) rfl rfl ?_
        refine Rg_off 14 21 rfl rfl (congrArg Value.bool (beq_iff_eq.2 hf3)) rfl rfl ?_
        refine Rg_off 14 21 rfl rfl (congrArg Value.bool (beq_iff_eq.2 hf3)) rfl rfl ?_
        refine Rg_off 14 21 rfl rfl (congrArg Value.bool (beq_iff_eq.2 hf3)) rfl rfl ?_
        refine Rg_off 14 21 rfl rfl (congrArg Value.bool (beq_iff_eq.2 hf3)) rfl rfl ?_
        refine Rg_off 14 21 rfl rfl (congrArg Value.bool (beq_iff_eq.2 hf3)) rfl rfl ?_
        refine Rg_off 14 21 rfl rfl (congrArg Value.bool (beq_iff_eq.2 hf3)) rfl rfl ?_
        refine Rg_on 10 17 rfl (congrArg Value.bool hf2) ?_
        refine Rg_run rfl (o_pickT (v := .bool _) (congrArg Value.bool (beq_iff_eq.2 hf3)) rfl) ?_
        refine Rg_run rfl (o_pickT (v := .bool _) (congrArg Value.bool hf2) rfl) ?_
        refine Rg_run rfl (o_assignh (v := .bool _) rfl) ?_
        refine Rg_nil ?_
        refine W_ret ?_
        refine ⟨_, res_tmp rfl rfl, ?_⟩
        rw [← imp_prog hk]
        refine ⟨congrArg Value.bool ?_, hX⟩
        first
        | (rw [Bool.eq_false_iff.2 hf1]; simp; done)
        | (rw [hf1, Bool.eq_false_iff.2 hf2]; simp; done)
        | (rw [hf1, hf2]; simp [hf3]; done)
        | (rw [hf1, hf2]; simp; done)
      · skip
        refine Rg_on 10 17 rfl (congrArg Value.bool hf2) ?_
        refine Rg_run rfl (o_moveh (v := .int _ _) rfl) ?_
        refine Rg_on 10 17 rfl (congrArg Value.bool hf2) ?_
        refine Rg_run rfl (o_moveh (v := .int _ _) rfl) ?_
        refine Rg_on 10 17 rfl (congrArg Value.bool hf2) ?_
        refine Rg_run rfl (o_eql rfl rfl) ?_
        refine Rg_on 10 17 rfl (congrArg Value.bool hf2) ?_
        refine Rg_run rfl (o_moveh (v := .bool _) rfl) ?_
        refine Rg_on 14 21 rfl (congrArg Value.bool (beq_eq_false_iff_ne.2 hf3)) ?_
        refine Rg_run rfl (o_moveh (v := .pointer _) rfl) ?_
        refine Rg_on 14 21 rfl (congrArg Value.bool (beq_eq_false_iff_ne.2 hf3)) ?_
        refine Rg_run rfl (o_nilc rfl) ?_
        refine Rg_on 14 21 rfl (congrArg Value.bool (beq_eq_false_iff_ne.2 hf3)) ?_
        refine Rg_run rfl (o_fa Tryz.underlying147 rfl Tryz.sizeOf143 rfl) ?_
        refine Rg_on 14 21 rfl (congrArg Value.bool (beq_eq_false_iff_ne.2 hf3)) ?_
        refine Rg_run rfl (o_load1 Tryz.isAgg143 rfl (hha.get 0 rfl)) ?_
        refine Rg_on 14 21 rfl (congrArg Value.bool (beq_eq_false_iff_ne.2 hf3)) ?_
        refine Rg_run rfl (o_moveh (v := .int _ _) rfl) ?_
        refine Rg_on 14 21 rfl (congrArg Value.bool (beq_eq_false_iff_ne.2 hf3)) ?_
        refine Rg_run rfl (o_moveh (v := .int _ _) rfl) ?_
        refine Rg_on 14 21 rfl (congrArg Value.bool (beq_eq_false_iff_ne.2 hf3)) ?_
        refine Rg_enter rfl (o_call3 Tryz.call104 rfl rfl rfl) (Ok.mono (oless_ok _ _ _ _ ho s r hs hr) ?_)
        rintro _ w5 ⟨rfl, x6⟩
        replace hX := Bel.ex hX x6
        refine Rg_on 10 17 rfl (congrArg Value.bool hf2) ?_
        refine Rg_run rfl (o_pickF (v := .bool _) (congrArg Value.bool (beq_eq_false_iff_ne.2 hf3)) rfl) ?_
        refine Rg_run rfl (o_pickT (v := .bool _) (congrArg Value.bool hf2) rfl) ?_
        refine Rg_run rfl (o_assignh (v := .bool _) rfl) ?_
        refine Rg_nil ?_
        refine W_ret ?_
        refine ⟨_, res_tmp rfl rfl, ?_⟩
        rw [← imp_prog hk]
        refine ⟨congrArg Value.bool ?_, hX⟩
        first
        | (rw [Bool.eq_false_iff.2 hf1]; simp; done)
        | (rw [hf1, Bool.eq_false_iff.2 hf2]; simp; done)
        | (rw [hf1, hf2]; simp [hf3]; done)
        | (rw [hf1, hf2]; simp; done)
    · skip
      refine Rg_on 6 13 rfl (congrArg Value.bool hf1) ?_
      refine Rg_run rfl (o_moveh (v := .int _ _) rfl) ?_
      refine Rg_on 6 13 rfl (congrArg Value.bool hf1) ?_
      refine Rg_enter rfl (o_call1 Tryz.call98 rfl) (Ok.mono (hrole_ok _ _) ?_)
      rintro _ w7 ⟨rfl, x8⟩
      replace hX := Bel.ex hX x8
      refine Rg_run rfl (o_pickT (v := .bool _) (congrArg Value.bool hf1) rfl) ?_
      refine Rg_run rfl (o_moveh (v := .bool _) rfl) ?_
      refine Rg_off 10 17 rfl rfl (congrArg Value.bool (Bool.eq_false_iff.2 hf2)) rfl rfl ?_
      refine Rg_off 10 17 rfl rfl (congrArg Value.bool (Bool.eq_false_iff.2 hf2)) rfl rfl ?_
      refine Rg_off 10 17 rfl rfl (congrArg Value.bool (Bool.eq_false_iff.2 hf2)) rfl rfl ?_
      refine Rg_off 10 17 rfl rfl (congrArg Value.bool (Bool.eq_false_iff.2 hf2)) rfl rfl ?_
      refine Rg_offU 14 21 rfl rfl rfl rfl ?_
      refine Rg_offU 14 21 rfl rfl rfl rfl ?_
      refine Rg_offU 14 21 rfl rfl rfl rfl ?_
      refine Rg_offU 14 21 rfl rfl rfl rfl ?_
      refine Rg_offU 14 21 rfl rfl rfl rfl ?_
      refine Rg_offU 14 21 rfl rfl rfl rfl ?_
      refine Rg_offU 14 21 rfl rfl rfl rfl ?_
      refine Rg_off 10 17 rfl rfl (congrArg Value.bool (Bool.eq_false_iff.2 hf2)) rfl rfl ?_
      refine Rg_run rfl (o_pickF (v := .bool _) (congrArg Value.bool (Bool.eq_false_iff.2 hf2)) rfl) ?_
      refine Rg_run rfl (o_assignh (v := .bool _) rfl) ?_
      refine Rg_nil ?_
      refine W_ret ?_
      refine ⟨_, res_tmp rfl rfl, ?_⟩
      rw [← imp_prog hk]
      refine ⟨congrArg Value.bool ?_, hX⟩
      first
      | (rw [Bool.eq_false_iff.2 hf1]; simp; done)
      | (rw [hf1, Bool.eq_false_iff.2 hf2]; simp; done)
      | (rw [hf1, hf2]; simp [hf3]; done)
      | (rw [hf1, hf2]; simp; done)
  · skip
    refine Rg_on 2 9 rfl rfl ?_
    refine Rg_run rfl (o_moveh (v := .int _ _) rfl) ?_
    refine Rg_on 2 9 rfl rfl ?_
    refine Rg_enter rfl (o_call1 Tryz.call98 rfl) (Ok.mono (hrole_ok _ _) ?_)
    rintro _ w9 ⟨rfl, x10⟩
    replace hX := Bel.ex hX x10
    refine Rg_run rfl (o_pickT (v := .bool _) rfl rfl) ?_
    refine Rg_run rfl (o_moveh (v := .bool _) rfl) ?_
    refine Rg_off 6 13 rfl rfl (congrArg Value.bool (Bool.eq_false_iff.2 hf1)) rfl rfl ?_
    refine Rg_off 6 13 rfl rfl (congrArg Value.bool (Bool.eq_false_iff.2 hf1)) rfl rfl ?_
    refine Rg_run rfl (o_pickF (v := .bool _) (congrArg Value.bool (Bool.eq_false_iff.2 hf1)) rfl) ?_
    refine Rg_run rfl (o_moveh (v := .bool _) rfl) ?_
    refine Rg_off 10 17 rfl rfl rfl rfl rfl ?_
    refine Rg_off 10 17 rfl rfl rfl rfl rfl ?_
    refine Rg_off 10 17 rfl rfl rfl rfl rfl ?_
    refine Rg_off 10 17 rfl rfl rfl rfl rfl ?_
    refine Rg_offU 14 21 rfl rfl rfl rfl ?_
    refine Rg_offU 14 21 rfl rfl rfl rfl ?_
    refine Rg_offU 14 21 rfl rfl rfl rfl ?_
    refine Rg_offU 14 21 rfl rfl rfl rfl ?_
    refine Rg_offU 14 21 rfl rfl rfl rfl ?_
    refine Rg_offU 14 21 rfl rfl rfl rfl ?_
    refine Rg_offU 14 21 rfl rfl rfl rfl ?_
    refine Rg_off 10 17 rfl rfl rfl rfl rfl ?_
    refine Rg_run rfl (o_pickF (v := .bool _) rfl rfl) ?_
    refine Rg_run rfl (o_assignh (v := .bool _) rfl) ?_
    refine Rg_nil ?_
    refine W_ret ?_
    refine ⟨_, res_tmp rfl rfl, ?_⟩
    rw [← imp_prog hk]
    refine ⟨congrArg Value.bool ?_, hX⟩
    first
    | (rw [Bool.eq_false_iff.2 hf1]; simp; done)
    | (rw [hf1, Bool.eq_false_iff.2 hf2]; simp; done)
    | (rw [hf1, hf2]; simp [hf3]; done)
    | (rw [hf1, hf2]; simp; done)

theorem himp_nil (r s : Int) (w : World) : Ok Tryz.prog 53 #[.pointer none, .int .i64 r, .int .i64 s] w fun v w' => v = .bool false ∧ Ext False w w' := by
  refine Ok_of_W 31 Tryz.func53 rfl rfl rfl ?_
  have hX : Ext False w w := Bel.refl _ _
  refine W_seq ?_
  refine W_region ?_
  refine Rg_run rfl o_assignc ?_
  refine Rg_nil ?_
  refine W_seq ?_
  refine W_region ?_
  refine Rg_run rfl (o_moveh (v := .pointer _) rfl) ?_
  refine Rg_run rfl (o_pne Tryz.underlying29 rfl rfl) ?_
  refine Rg_run rfl (o_moveh (v := .bool _) rfl) ?_
  refine Rg_off 2 9 rfl rfl rfl rfl rfl ?_
  refine Rg_off 2 9 rfl rfl rfl rfl rfl ?_
  refine Rg_run rfl (o_pickF (v := .bool _) rfl rfl) ?_
  refine Rg_run rfl (o_moveh (v := .bool _) rfl) ?_
  refine Rg_off 6 13 rfl rfl rfl rfl rfl ?_
  refine Rg_off 6 13 rfl rfl rfl rfl rfl ?_
  refine Rg_run rfl (o_pickF (v := .bool _) rfl rfl) ?_
  refine Rg_run rfl (o_moveh (v := .bool _) rfl) ?_
  refine Rg_off 10 17 rfl rfl rfl rfl rfl ?_
  refine Rg_off 10 17 rfl rfl rfl rfl rfl ?_
  refine Rg_off 10 17 rfl rfl rfl rfl rfl ?_
  refine Rg_off 10 17 rfl rfl rfl rfl rfl ?_
  refine Rg_offU 14 21 rfl rfl rfl rfl ?_
  refine Rg_offU 14 21 rfl rfl rfl rfl ?_
  refine Rg_offU 14 21 rfl rfl rfl rfl ?_
  refine Rg_offU 14 21 rfl rfl rfl rfl ?_
  refine Rg_offU 14 21 rfl rfl rfl rfl ?_
  refine Rg_offU 14 21 rfl rfl rfl rfl ?_
  refine Rg_offU 14 21 rfl rfl rfl rfl ?_
  refine Rg_off 10 17 rfl rfl rfl rfl rfl ?_
  refine Rg_run rfl (o_pickF (v := .bool _) rfl rfl) ?_
  refine Rg_run rfl (o_assignh (v := .bool _) rfl) ?_
  refine Rg_nil ?_
  refine W_ret ?_
  refine ⟨_, res_tmp rfl rfl, ?_⟩
  exact ⟨rfl, hX⟩

theorem himpV_ok (w : World) (v0 : Value) (F : Nat → Prop) (imp : Int → Int → Bool) (hh : HyO F w v0 imp) (r s : Int) (hr : I64 r) (hs : I64 s) : Ok Tryz.prog 53 #[v0, .int .i64 r, .int .i64 s] w fun v w' => v = .bool (imp r s) ∧ Ext False w w' := by
  rcases hh with ⟨L, ph, po, o, rfl, _, h1, h2, h3, rfl⟩ | ⟨rfl, rfl⟩
  · exact himp_ok ph po o L _ r s w h1 h2 h3 hr hs
  · exact himp_nil r s w
theorem gred_ok (v0 : Value) (m : List Ent) (w : World) (hb0 : GbIs w v0 m) (hm : OkG m) (v1 : Value) (Fh : Nat → Prop) (imp : Int → Int → Bool) (hh : HyO Fh w v1 imp) : Ok Tryz.prog 16 #[v0, v1] w fun v w' => Own encE 4 76 (Fsh w w') w' v (redL imp m m) ∧ Ext False w w' := by
  have hbi := hb0
  replace hh := hh.mono (F' := fun g => Fh g ∧ g < w.heap.size) (fun g h1 h2 => ⟨h2, h1⟩)
  obtain ⟨pb, ab, cb, rfl, hba, hb⟩ := hb0
  have hbl := hba.lt
  have hlen : m.length ≤ 1000 := hm.len
  refine Ok_of_W 58 Tryz.func16 rfl rfl rfl ?_
  have hX : Ext False w w := Bel.refl _ _
  refine W_seq ?_
  refine W_region ?_
  refine Rg_run rfl o_assignc ?_
  refine Rg_nil ?_
  refine W_seq ?_
  refine W_region ?_
  refine Rg_run rfl o_assignc ?_
  refine Rg_nil ?_
  refine W_seq ?_
  refine W_seq ?_
  refine W_region ?_
  refine Rg_run rfl (o_moveh (v := .pointer _) rfl) ?_
  refine Rg_enter rfl (o_call1 Tryz.call34 rfl) (Ok.mono (gents_ok _ _ _ hbi hm) ?_)
  rintro v11 w1 ⟨hown11, x2⟩
  have z3 := Bel.size x2
  replace hX := Bel.ex hX x2
  replace hb := hb.ext x2
  replace hba := hba.ext x2
  replace hh := hh.ext x2
  obtain ⟨a11, c11, hv11, hs11⟩ := hown11.sl encE_ok
  subst hv11
  refine Rg_run rfl (o_llen Tryz.underlying34 rfl) ?_
  refine Rg_run rfl o_movec ?_
  refine Rg_nil ?_
  refine W_block ?_
  obtain ⟨n0, hn0⟩ : ∃ n, n = w1.heap.size := ⟨_, rfl⟩
  refine W_for (α := Nat × Value) [(5, 5), (7, 7), (9, 9), (13, 56)] (fun q => [(13, .int .i64 (q.1 : Int)), (5, q.2)]) (fun q w' => (q.1 ≤ m.length) ∧ Bel False (fun g => n0 ≤ g) w1 w' ∧ (Own encE 4 76 (fun g => n0 ≤ g) w' q.2 (redL imp m (m.take q.1)))) (fun q => m.length - q.1) (0, .slice none 0 0) ⟨rfl, rfl, trivial⟩ ⟨Nat.zero_le _, Bel.refl _ _, Own.nil _ _⟩ ?_
  rintro ⟨k, t⟩ fb6 w5 ⟨hk, hXL4, hown⟩
  dsimp only at *
  have z7 := Bel.size hXL4
  replace hX := Bel.out hX hXL4 (fun g h1 h2 => by first | exact h2 | omega)
  replace hb := hb.keep hXL4 (fun g h1 h2 h3 => by omega)
  replace hba := hba.keep hXL4 (fun h => by omega)
  replace hh := hh.keep hXL4 (fun g h1 h2 h3 => by omega)
  replace hs11 := hs11.keep hXL4 (fun g h1 h2 h3 => by omega)
  refine W_seq ?_
  refine W_region ?_
  refine Rg_run rfl (o_lss rfl rfl) ?_
  refine Rg_nil ?_
  refine W_seq ?_
  refine W_cond rfl (fun hc1 => ?_) (fun hc1 => ?_)
  · skip
    replace hc1 := of_decide_eq_true hc1
    refine W_skip ?_
    refine W_seq ?_
    refine W_block ?_
    refine W_seq ?_
    refine W_region ?_
    refine Rg_run rfl (o_iaR Tryz.underlying34 Tryz.sizeOf76 hs11 rfl rfl (by first | omega | (unfold I64; omega) | (simp; done) | (simp; omega) | (simp at *; omega))) ?_
    refine Rg_run rfl (o_ldRS Tryz.isAgg76 Tryz.sizeOf76 hs11 rfl (getE ez (by omega))) ?_
    refine Rg_alst rfl rfl Tryz.zeroValue76 rfl Tryz.sizeOf76 (fun _ => rfl) rfl rfl ?_
    intro b7 w8 x9 hge7 hb7
    replace hown := hown.mono (D' := fun g => n0 ≤ g ∧ g ≠ b7) (fun g h1 h2 => by omega)
    have hlt7 := hb7.lt
    change Box _ _ _ (encE _) at hb7
    have z10 := Bel.size x9
    replace hX := Bel.ex hX x9
    replace hXL4 := Bel.ex hXL4 x9
    replace hb := hb.ext x9
    replace hba := hba.ext x9
    replace hh := hh.ext x9
    replace hown := hown.ext x9
    refine Rg_nil ?_
    refine W_seq ?_
    refine W_region ?_
    refine Rg_run rfl (o_moveh (v := .pointer _) rfl) ?_
    refine Rg_run rfl (o_nilc rfl) ?_
    refine Rg_run rfl (o_fa Tryz.underlying102 rfl Tryz.sizeOf34 rfl) ?_
    refine Rg_run rfl (o_load1 Tryz.isAgg34 rfl (hba.get 0 rfl)) ?_
    refine Rg_run rfl (o_llen Tryz.underlying34 rfl) ?_
    refine Rg_run rfl o_movec ?_
    refine Rg_nil ?_
    refine W_block ?_
    refine W_for (α := Nat × Value) [(5, 5), (9, 9), (22, 55)] (fun q => [(22, .int .i64 (q.1 : Int)), (5, q.2)]) (fun q w' => (q.1 ≤ m.length ∧ (m.take q.1).any (needB imp (m.getD k ez)) = false) ∧ Bel False (fun g => n0 ≤ g ∧ g ≠ b7) w8 w' ∧ (Own encE 4 76 (fun g => n0 ≤ g ∧ g ≠ b7) w' q.2 (redL imp m (m.take k)))) (fun q => m.length - q.1) (0, t) ⟨rfl, rfl, trivial⟩ ⟨⟨Nat.zero_le _, by simp⟩, Bel.refl _ _, (hown.mono (fun g h1 h2 => by omega))⟩ ?_
    rintro ⟨j, t2⟩ fb13 w12 ⟨⟨hj, hall⟩, hXL11, hown⟩
    dsimp only at *
    have z14 := Bel.size hXL11
    replace hX := Bel.out hX hXL11 (fun g h1 h2 => by first | exact h2 | omega)
    replace hXL4 := Bel.out hXL4 hXL11 (fun g h1 h2 => by first | exact h2 | omega)
    replace hb := hb.keep hXL11 (fun g h1 h2 h3 => by omega)
    replace hh := hh.keep hXL11 (fun g h1 h2 h3 => by omega)
    replace hb7 := hb7.keep hXL11 (fun h => by omega)
    refine W_seq ?_
    refine W_region ?_
    refine Rg_run rfl (o_lss rfl rfl) ?_
    refine Rg_nil ?_
    refine W_seq ?_
    refine W_cond rfl (fun hc2 => ?_) (fun hc2 => ?_)
    · skip
      replace hc2 := of_decide_eq_true hc2
      refine W_skip ?_
      refine W_seq ?_
      refine W_block ?_
      refine W_seq ?_
      refine W_region ?_
      refine Rg_run rfl (o_iaR Tryz.underlying34 Tryz.sizeOf76 hb rfl rfl (by first | omega | (unfold I64; omega) | (simp; done) | (simp; omega) | (simp at *; omega))) ?_
      refine Rg_run rfl (o_ldRS Tryz.isAgg76 Tryz.sizeOf76 hb rfl (getE ez (by omega))) ?_
      refine Rg_alst rfl rfl Tryz.zeroValue76 rfl Tryz.sizeOf76 (fun _ => rfl) rfl rfl ?_
      intro b9 w15 x16 hge9 hb9
      replace hown := hown.mono (D' := fun g => n0 ≤ g ∧ g ≠ b7 ∧ g ≠ b9) (fun g h1 h2 => by omega)
      have hlt9 := hb9.lt
      change Box _ _ _ (encE _) at hb9
      have z17 := Bel.size x16
      replace hX := Bel.ex hX x16
      replace hXL4 := Bel.ex hXL4 x16
      replace hXL11 := Bel.ex hXL11 x16
      replace hh := hh.ext x16
      replace hb7 := hb7.ext x16
      replace hown := hown.ext x16
      refine Rg_nil ?_
      refine W_seq ?_
      refine W_region ?_
      refine Rg_run rfl (o_loadS Tryz.isAgg76 Tryz.sizeOf76 rfl hb7.at rfl) ?_
      refine Rg_run rfl (o_loadS Tryz.isAgg76 Tryz.sizeOf76 rfl hb9.at rfl) ?_
      refine Rg_run rfl (o_tneq eq_ent rfl rfl) ?_
      refine Rg_run rfl (o_moveh (v := .bool _) rfl) ?_
      refine Rg_may 3 29 rfl rfl rfl (fun hg => (o_fa Tryz.underlying76 rfl Tryz.sizeOf3 rfl)) ?_
      refine Rg_may 3 29 rfl rfl rfl (fun hg => (o_load1 Tryz.isAgg3 (gsel (u := undef) hg) (hb7.at.get 0 rfl))) ?_
      refine Rg_may 3 29 rfl rfl rfl (fun hg => (o_fa Tryz.underlying76 rfl Tryz.sizeOf3 rfl)) ?_
      refine Rg_may 3 29 rfl rfl rfl (fun hg => (o_load1 Tryz.isAgg3 (gsel (u := undef) hg) (hb9.at.get 0 rfl))) ?_
      refine Rg_may 3 29 rfl rfl rfl (fun hg => (o_eql (gsel (u := undef) hg) (gsel (u := undef) hg))) ?_
      refine Rg_may 3 29 rfl rfl rfl (fun hg => (o_moveh (v := .bool _) (gsel (u := undef) hg))) ?_
      refine Rg_may2 9 35 rfl rfl rfl (fun hg => (o_moveh (v := v1) rfl)) ?_
      refine Rg_may2 9 35 rfl rfl rfl (fun hg => (o_fa Tryz.underlying76 rfl Tryz.sizeOf3 rfl)) ?_
      refine Rg_may2 9 35 rfl rfl rfl (fun hg => (o_load1 Tryz.isAgg3 (gsel (u := undef) hg) (hb7.at.get 0 rfl))) ?_
      refine Rg_may2 9 35 rfl rfl rfl (fun hg => (o_fa Tryz.underlying76 rfl Tryz.sizeOf3 rfl)) ?_
      refine Rg_may2 9 35 rfl rfl rfl (fun hg => (o_load1 Tryz.isAgg3 (gsel (u := undef) hg) (hb9.at.get 0 rfl))) ?_
      refine Rg_mayCall2 9 35 rfl rfl rfl (fun hg => ⟨(o_call3 Tryz.call53 (gsel (u := undef) hg) (gsel (u := undef) hg) (gsel (u := undef) hg)), himpV_ok _ _ _ imp hh (m.getD k ez).r (m.getD j ez).r (by have := (hm.ve _ (gm (z := ez) (show k < m.length by omega))); unfold Ve at this; unfold I64; omega) (by have := (hm.ve _ (gm (z := ez) (show j < m.length by omega))); unfold Ve at this; unfold I64; omega)⟩) ?_
      intro w18 x19
      have z20 := Bel.size x19
      replace hX := Bel.ex hX x19
      replace hXL4 := Bel.ex hXL4 x19
      replace hXL11 := Bel.ex hXL11 x19
      replace hb7 := hb7.ext x19
      replace hown := hown.ext x19
      replace hb9 := hb9.ext x19
      refine Rg_may 3 29 rfl rfl rfl (fun hg => (o_or (u := undef) (gsel (u := undef) hg) (gand (u := undef) hg))) ?_
      refine Rg_run rfl (o_and (u := undef) rfl rfl) ?_
      refine Rg_run rfl (o_moveh (v := .bool _) rfl) ?_
      refine Rg_may 18 44 rfl rfl rfl (fun hg => (o_fa Tryz.underlying76 rfl Tryz.sizeOf52 rfl)) ?_
      refine Rg_may 18 44 rfl rfl rfl (fun hg => (o_loadS Tryz.isAgg52 Tryz.sizeOf52 (gsel (u := undef) hg) (hb9.at.sub 1 3) rfl)) ?_
      refine Rg_may 18 44 rfl rfl rfl (fun hg => (o_fa Tryz.underlying76 rfl Tryz.sizeOf52 rfl)) ?_
      refine Rg_may 18 44 rfl rfl rfl (fun hg => (o_loadS Tryz.isAgg52 Tryz.sizeOf52 (gsel (u := undef) hg) (hb7.at.sub 1 3) rfl)) ?_
      refine Rg_mayCall 18 44 rfl rfl rfl (fun hg => ⟨(o_call2 Tryz.call54 (gsel (u := undef) hg) (gsel (u := undef) hg)), implies_ok (False) _ (hm.ve _ (gm (z := ez) (show j < m.length by omega))).2.2.1 _ (hm.ve _ (gm (z := ez) (show k < m.length by omega))).2.2.1 _⟩) ?_
      intro w21 x22
      have z23 := Bel.size x22
      replace hX := Bel.ex hX x22
      replace hXL4 := Bel.ex hXL4 x22
      replace hXL11 := Bel.ex hXL11 x22
      replace hb7 := hb7.ext x22
      replace hown := hown.ext x22
      refine Rg_run rfl (o_and (u := undef) rfl rfl) ?_
      refine Rg_nil ?_
      refine W_cond rfl (fun hc3 => ?_) (fun hc3 => ?_)
      · skip
        refine W_seq ?_
        refine W_region ?_
        refine Rg_run rfl (o_moveh (v := t2) rfl) ?_
        refine Rg_run rfl (o_loadS Tryz.isAgg76 Tryz.sizeOf76 rfl hb7.at rfl) ?_
        refine Rg_bs (vs := [.agg _]) ([(m.getD k ez)]) rfl encE_ok el_ent rfl rfl ⟨rfl, trivial⟩ rfl rfl rfl rfl ?_
        intro a53 w24 x25 hown53
        have z26 := Bel.size x25
        replace hX := Bel.ex hX x25
        replace hXL4 := Bel.ex hXL4 x25
        replace hXL11 := Bel.ex hXL11 x25
        replace hown := hown.ext x25
        replace hown53 := hown53.mono (D' := fun g => n0 ≤ g ∧ g ≠ b7) (fun g h1 h2 => by omega)
        refine Rg_app rfl encE_ok el_ent rfl rfl hown (hown53.slA encE_ok) rfl (by have := red_len imp m (m.take k); rw [List.length_take] at this; simp; omega) (fun g h => by omega) ?_
        intro v54 w27 x28 hown
        have z29 := Bel.size x28
        replace hX := Bel.out hX x28 (fun g h1 h2 => by first | exact h2 | omega)
        replace hXL4 := Bel.out hXL4 x28 (fun g h1 h2 => by first | exact h2 | omega)
        replace hXL11 := Bel.out hXL11 x28 (fun g h1 h2 => by first | exact h2 | omega)
        refine Rg_run rfl (o_assignh (v := v54) rfl) ?_
        refine Rg_nil ?_
        refine W_exit ?_
        refine exAt_miss rfl ?_
        refine exAt_hit ?_
        refine W_region ?_
        refine Rg_run rfl (o_add rfl rfl (by first | omega | (unfold I64; omega) | (simp; done) | (simp; omega) | (simp at *; omega))) ?_
        refine Rg_run rfl (o_moveh (v := .int _ _) rfl) ?_
        refine Rg_nil ?_
        refine ⟨(k + 1, v54), ⟨?_, ?_, trivial⟩, ?_, ⟨?_, hXL4, ?_⟩, ?_⟩
        · first | rfl | (go_num) | (exact congrArg _ (by omega))
        · first | rfl | (go_num) | (exact congrArg _ (by omega))
        · repeat (first | exact off_refl _ _ | exact off_mix | refine off_put rfl ?_ | refine off_putN ?_ | refine off_setL rfl ?_ | refine off_mix' rfl ?_)
        · show k + 1 ≤ m.length; omega
        · show Own _ _ _ _ _ _ (redL imp m (m.take (k + 1)))
          rw [red_yes (by omega) (List.any_eq_true.2 ⟨_, gm (z := ez) (show j < m.length by omega), hc3⟩)]; exact hown.mono (fun g h1 h2 => by omega)
        · show m.length - (k + 1) < m.length - k; omega
      · skip
        refine W_skip ?_
        refine W_region ?_
        refine Rg_run rfl (o_add rfl rfl (by first | omega | (unfold I64; omega) | (simp; done) | (simp; omega) | (simp at *; omega))) ?_
        refine Rg_run rfl (o_moveh (v := .int _ _) rfl) ?_
        refine Rg_nil ?_
        refine ⟨(j + 1, t2), ⟨?_, ?_, trivial⟩, ?_, ⟨?_, hXL11, ?_⟩, ?_⟩
        · first | rfl | (go_num) | (exact congrArg _ (by omega))
        · first | rfl | (go_num) | (exact congrArg _ (by omega))
        · repeat (first | exact off_refl _ _ | exact off_mix | refine off_put rfl ?_ | refine off_putN ?_ | refine off_setL rfl ?_ | refine off_mix' rfl ?_)
        · exact ⟨by show j + 1 ≤ m.length; omega, by rw [anyE_succ (by omega), hall]; exact hc3⟩
        · exact hown.mono (fun g h1 h2 => by omega)
        · show m.length - (j + 1) < m.length - j; omega
    · skip
      replace hc2 := of_decide_eq_false hc2
      refine W_exit ?_
      refine exAt_hit ?_
      refine W_region ?_
      refine Rg_run rfl (o_add rfl rfl (by first | omega | (unfold I64; omega) | (simp; done) | (simp; omega) | (simp at *; omega))) ?_
      refine Rg_run rfl (o_moveh (v := .int _ _) rfl) ?_
      refine Rg_nil ?_
      refine ⟨(k + 1, t2), ⟨?_, ?_, trivial⟩, ?_, ⟨?_, hXL4, ?_⟩, ?_⟩
      · first | rfl | (go_num) | (exact congrArg _ (by omega))
      · first | rfl | (go_num) | (exact congrArg _ (by omega))
      · repeat (first | exact off_refl _ _ | exact off_mix | refine off_put rfl ?_ | refine off_putN ?_ | refine off_setL rfl ?_ | refine off_mix' rfl ?_)
      · show k + 1 ≤ m.length; omega
      · show Own _ _ _ _ _ _ (redL imp m (m.take (k + 1)))
        rw [red_no (by omega) (by rw [List.take_of_length_le (by omega)] at hall; exact hall)]; exact hown.mono (fun g h1 h2 => by omega)
      · show m.length - (k + 1) < m.length - k; omega
  · skip
    replace hc1 := of_decide_eq_false hc1
    refine W_exit ?_
    refine exAt_hit ?_
    refine W_seq ?_
    refine W_region ?_
    rw [List.take_of_length_le (by omega)] at hown
    refine Rg_run rfl (o_moveh (v := t) rfl) ?_
    refine Rg_run rfl (o_assignh (v := t) rfl) ?_
    refine Rg_nil ?_
    refine W_ret ?_
    refine ⟨_, res_tmp rfl rfl, ?_⟩
    exact ⟨hown.mono (fun g h1 h2 => ⟨by omega, h1⟩), hX⟩

end Go.Proofs.YtndlnfdaeipifaaGreatDoor
