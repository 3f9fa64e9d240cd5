/- Walks, printed by program: each theorem says what a function of the translation returns. -/
import Derived.Test.YtncmjgmlnnenhaaGreatDoorWwire
import Derived.Test.YtncmjgmlnnenhaaGreatDoorRe
namespace Go.Proofs.YtncmjgmlnnenhaaGreatDoor
open Go Go.Lx Go.RowKit
set_option maxRecDepth 100000
set_option linter.unusedVariables false
set_option linter.unusedSimpArgs false
set_option linter.unnecessarySimpa false
theorem rnew_ok (v0 : Value) (G : Nat → Prop) (l : List UInt8) (w : World) (hl : Rd encB 1 G w v0 l) (hn : l.length ≤ 100000000) : Ok Tryz.prog 52 #[v0] w fun v w' => Rr 164 (Fsh w w') w' v (l, 0) ∧ Ext False w w' := by
  refine Ok_of_W 7 Tryz.func52 rfl rfl rfl ?_
  have hX : Ext False w w := Bel.refl _ _
  refine W_seq (W_region ?_)
  refine Rg_run rfl o_assignc ?_
  refine Rg_nil (W_seq (W_region ?_))
  refine Rg_run rfl (o_moveh (v := v0) rfl) ?_
  refine Rg_enter rfl (o_call1 Tryz.call90 rfl) (Ok.mono (bclone_ok _ _ _ _ hl hn) ?_)
  rintro v4 w1 ⟨hown4, x2⟩
  have z3 := Bel.size x2
  replace hX := Bel.ex hX x2
  replace hown4 := hown4.mono (D' := fun g => w.heap.size ≤ g) (fun g h1 h2 => by omega)
  obtain ⟨a4, c4, hv4, -⟩ := hown4.sl encB_ok
  subst hv4
  obtain ⟨n5, hn5⟩ : ∃ n, n = w1.heap.size := ⟨_, rfl⟩
  replace hown4 := hown4.mono (D' := fun g => w.heap.size ≤ g ∧ g < n5) (fun g h1 h2 => ⟨h2, by omega⟩)
  refine Rg_run rfl (o_build (cells := [.slice a4 l.length c4, .int .i64 0]) (vs := [(0, .slice _ _ _)]) rfl (by kernel_rfl)) ?_
  refine Rg_newB rfl (o_box (v := .agg _) rfl) ?_
  intro b6 w4 x5 hge6 hb6
  have hlt6 := hb6.lt
  change Box _ _ _ (rdC _ _) at hb6
  have z6 := Bel.size x5
  replace hX := Bel.ex hX x5
  replace hown4 := hown4.ext x5
  refine Rg_run rfl (o_assignh (v := .pointer _) rfl) ?_
  refine Rg_nil (W_ret ?_)
  refine ⟨_, res_tmp rfl rfl, ?_⟩
  exact ⟨⟨b6, _, rfl, ⟨by omega, hb6.lt⟩, hb6, (hown4.rd encB_ok).mono (fun g h1 h2 => ⟨⟨by omega, by omega⟩, by omega⟩)⟩, hX⟩

theorem rok_ok (v0 : Value) (D : Nat → Prop) (s : RSt) (w : World) (hr0 : Rr 164 D w v0 s) : Ok Tryz.prog 96 #[v0] w fun v w' => v = .bool (s.2 == 0) ∧ Ext False w w' := by
  obtain ⟨b, u, rfl, hDb, hb, hx⟩ := hr0
  obtain ⟨ax, cx, rfl, hx⟩ := hx
  refine Ok_of_W 12 Tryz.func96 rfl rfl rfl ?_
  have hX : Ext False w w := Bel.refl _ _
  refine W_seq (W_region ?_)
  refine Rg_run rfl o_assignc ?_
  refine Rg_nil (W_seq (W_region ?_))
  refine Rg_run rfl (o_moveh (v := .pointer _) rfl) ?_
  refine Rg_run rfl (o_pne Tryz.underlying103 rfl rfl) ?_
  refine Rg_run rfl (o_moveh (v := .bool _) rfl) ?_
  refine Rg_on 2 5 rfl rfl ?_
  refine Rg_run rfl (o_moveh (v := .pointer _) rfl) ?_
  refine Rg_on 2 5 rfl rfl ?_
  refine Rg_run rfl (o_nilc rfl) ?_
  refine Rg_on 2 5 rfl rfl ?_
  refine Rg_run rfl (o_fa Tryz.underlying164 rfl Tryz.sizeOf39 rfl) ?_
  refine Rg_on 2 5 rfl rfl ?_
  refine Rg_run rfl (o_load1 Tryz.isAgg39 rfl (hb.at.get 1 rfl)) ?_
  refine Rg_on 2 5 rfl rfl ?_
  refine Rg_run rfl (o_eql rfl rfl) ?_
  refine Rg_run rfl (o_pickT (v := .bool _) rfl rfl) ?_
  refine Rg_run rfl (o_assignh (v := .bool _) rfl) ?_
  refine Rg_nil (W_ret ?_)
  refine ⟨_, res_tmp rfl rfl, ?_⟩
  refine ⟨congrArg Value.bool ?_, hX⟩
  all_goals (rfl)

theorem rerr_ok (v0 : Value) (D : Nat → Prop) (s : RSt) (w : World) (hr0 : Rr 164 D w v0 s) : Ok Tryz.prog 56 #[v0] w fun v w' => v = .int .i64 s.2 ∧ Ext False w w' := by
  obtain ⟨b, u, rfl, hDb, hb, hx⟩ := hr0
  obtain ⟨ax, cx, rfl, hx⟩ := hx
  refine Ok_of_W 9 Tryz.func56 rfl rfl rfl ?_
  have hX : Ext False w w := Bel.refl _ _
  refine W_seq (W_region ?_)
  refine Rg_run rfl o_assignc ?_
  refine Rg_nil (W_seq (W_seq (W_region ?_)))
  refine Rg_run rfl (o_moveh (v := .pointer _) rfl) ?_
  refine Rg_run rfl (o_peq Tryz.underlying103 rfl rfl) ?_
  refine Rg_nil ?_
  refine W_cond_false rfl ?_
  refine W_skip (W_seq (W_region ?_))
  refine Rg_run rfl (o_moveh (v := .pointer _) rfl) ?_
  refine Rg_run rfl (o_nilc rfl) ?_
  refine Rg_run rfl (o_fa Tryz.underlying164 rfl Tryz.sizeOf39 rfl) ?_
  refine Rg_run rfl (o_load1 Tryz.isAgg39 rfl (hb.at.get 1 rfl)) ?_
  refine Rg_run rfl (o_assignh (v := .int _ _) rfl) ?_
  refine Rg_nil (W_ret ?_)
  refine ⟨_, res_tmp rfl rfl, ?_⟩
  refine ⟨congrArg (Value.int .i64) ?_, hX⟩
  all_goals (rfl)

theorem rfail_ok (v0 : Value) (D : Nat → Prop) (s : RSt) (e : Int) (w : World) (hr0 : Rr 164 D w v0 s) : Ok Tryz.prog 145 #[v0, .int .i64 e] w fun v w' => v = .tuple #[] ∧ Rr 164 D w' v0 (failS s e) ∧ Bel False (PtB v0) w w' := by
  have hr1 := hr0
  obtain ⟨b, u, rfl, hDb, hb, hx⟩ := hr0
  obtain ⟨ax, cx, rfl, hx⟩ := hx
  refine Ok_of_W 10 Tryz.func145 rfl rfl rfl ?_
  have hX : Bel False ((PtB (.pointer (some ⟨b, 0, none⟩)))) w w := Bel.refl _ _
  refine W_seq (W_region ?_)
  refine Rg_run rfl (o_moveh (v := .pointer _) rfl) ?_
  refine Rg_enter rfl (o_call1 Tryz.call96 rfl) (Ok.mono (rok_ok _ _ _ _ hr1) ?_)
  rintro _ w1 ⟨rfl, x2⟩
  have z3 := Bel.size x2
  replace hX := Bel.ex hX x2
  replace hb := hb.ext x2
  replace hx := hx.ext x2
  refine Rg_nil ?_
  refine W_cond rfl (fun hc1 => ?_) (fun hc1 => ?_)
  · skip
    skip
    refine W_region ?_
    refine Rg_run rfl (o_moveh (v := .pointer _) rfl) ?_
    refine Rg_run rfl (o_moveh (v := .int _ _) rfl) ?_
    refine Rg_run rfl (o_nilc rfl) ?_
    refine Rg_run rfl (o_fa Tryz.underlying164 rfl Tryz.sizeOf39 rfl) ?_
    refine Rg_store (v := .int _ _) rfl Tryz.sizeOf39 rfl rfl hb rfl rfl rfl ?_
    intro w4 c5 hb
    change Box _ _ _ ([_, .int _ _]) at hb
    have z6 := Bel.size c5
    replace hX := Bel.out hX c5 (fun g h1 h2 => by first | exact h2 | (cases h2; rfl))
    replace hx := hx.keep c5 (fun g h1 h2 h3 => h2.2 h3)
    refine Rg_nil ?_
    refine ⟨_, res_none rfl, ?_⟩
    rw [failS, if_pos hc1]; exact ⟨rfl, ⟨b, _, rfl, hDb, hb, _, _, rfl, hx⟩, hX⟩
  skip
  refine W_skip ?_
  refine ⟨_, res_none rfl, ?_⟩
  rw [failS, if_neg (by rw [hc1]; simp)]; exact ⟨rfl, ⟨b, _, rfl, hDb, hb, _, _, rfl, hx⟩, hX⟩

theorem rref_ok (v0 : Value) (D : Nat → Prop) (s : RSt) (bad : Bool) (e : Int) (w : World) (hr0 : Rr 164 D w v0 s) : Ok Tryz.prog 97 #[v0, .bool bad, .int .i64 e] w fun v w' => v = .bool (!bad) ∧ Rr 164 D w' v0 (refS s bad e) ∧ Bel False (PtB v0) w w' := by
  refine Ok_of_W 13 Tryz.func97 rfl rfl rfl ?_
  have hX : Bel False ((PtB v0)) w w := Bel.refl _ _
  refine W_seq (W_region ?_)
  refine Rg_run rfl o_assignc ?_
  refine Rg_nil (W_seq (W_seq (W_region ?_)))
  refine Rg_run rfl (o_moveh (v := .bool _) rfl) ?_
  refine Rg_nil ?_
  refine W_cond rfl (fun hc1 => ?_) (fun hc1 => ?_)
  · skip
    skip
    refine W_region ?_
    refine Rg_run rfl (o_moveh (v := v0) rfl) ?_
    refine Rg_run rfl (o_moveh (v := .int _ _) rfl) ?_
    refine Rg_enter rfl (o_call2 Tryz.call145 rfl rfl) (Ok.mono (rfail_ok v0 _ _ _ _ hr0) ?_)
    rintro _ w1 ⟨rfl, hr0, x2⟩
    have z3 := Bel.size x2
    replace hX := Bel.out hX x2 (fun g h1 h2 => by first | exact h2 | omega)
    refine Rg_nil (W_seq (W_region ?_))
    refine Rg_run rfl (o_moveh (v := .bool _) rfl) ?_
    refine Rg_run rfl (o_not rfl) ?_
    refine Rg_run rfl (o_assignh (v := .bool _) rfl) ?_
    refine Rg_nil (W_ret ?_)
    refine ⟨_, res_tmp rfl rfl, ?_⟩
    rw [refS, if_pos hc1]; exact ⟨rfl, hr0, hX⟩
  skip
  refine W_skip (W_seq (W_region ?_))
  refine Rg_run rfl (o_moveh (v := .bool _) rfl) ?_
  refine Rg_run rfl (o_not rfl) ?_
  refine Rg_run rfl (o_assignh (v := .bool _) rfl) ?_
  refine Rg_nil (W_ret ?_)
  refine ⟨_, res_tmp rfl rfl, ?_⟩
  rw [refS, if_neg (by rw [hc1]; simp)]; exact ⟨rfl, hr0, hX⟩

theorem rnum_ok (v0 : Value) (D : Nat → Prop) (l : List UInt8) (e0 : Int) (w : World) (hr0 : Rr 164 D w v0 (l, e0)) : Ok Tryz.prog 98 #[v0] w fun v w' => v = .tuple #[u64 (numR l).1, .int .i64 ((numR l).2 : Int)] ∧ Ext False w w' := by
  obtain ⟨b, u, rfl, hDb, hb, hx⟩ := hr0
  replace hx : Rd encB 1 (fun g => D g ∧ g ≠ b) w u l := hx
  replace hb : Box w b 164 [u, .int .i64 e0] := hb
  obtain ⟨ax, cx, rfl, hx⟩ := hx
  have hbl := hb.lt
  have hlx := hx.len
  refine Ok_of_W 39 Tryz.func98 rfl rfl rfl ?_
  have hX : Ext False w w := Bel.refl _ _
  refine W_seq (W_region ?_)
  refine Rg_run rfl o_assignc ?_
  refine Rg_run rfl o_assignc ?_
  refine Rg_nil (W_seq (W_region ?_))
  refine Rg_run rfl o_assignc ?_
  refine Rg_nil (W_seq (W_seq (W_region ?_)))
  refine Rg_run rfl (o_moveh (v := .pointer _) rfl) ?_
  refine Rg_run rfl (o_nilc rfl) ?_
  refine Rg_run rfl (o_fa Tryz.underlying164 rfl Tryz.sizeOf30 rfl) ?_
  refine Rg_run rfl (o_load1 Tryz.isAgg30 rfl (hb.at.get 0 rfl)) ?_
  refine Rg_run rfl (o_llen Tryz.underlying30 rfl) ?_
  refine Rg_run rfl o_movec ?_
  refine Rg_nil (W_block ?_)
  refine W_for (α := Nat × W64) [(2, 6), (12, 38)] (fun q => [(12, .int .i64 (q.1 : Int)), (4, u64 q.2)]) (fun q w' => (q.1 ≤ l.length ∧ numR l = numGo q.1 q.2 (l.drop q.1)) ∧ Ext False w w') (fun q => l.length - q.1) (0, 0) ⟨rfl, rfl, trivial⟩ ⟨⟨Nat.zero_le _, rfl⟩, Bel.refl _ _⟩ ?_
  rintro ⟨k, y⟩ fb3 w2 ⟨⟨hk, hnr⟩, hXL1⟩
  dsimp only at *
  replace hX := Bel.ex hX hXL1
  replace hx := hx.ext hXL1
  refine W_seq (W_region ?_)
  refine Rg_run rfl (o_lss rfl rfl) ?_
  refine Rg_nil (W_seq ?_)
  refine W_cond rfl (fun hc1 => ?_) (fun hc1 => ?_)
  · skip
    replace hc1 := of_decide_eq_true hc1
    have hkl : k < l.length := by omega
    refine W_skip (W_seq (W_block (W_seq (W_region ?_))))
    refine Rg_run rfl (o_moveh (v := .int _ _) rfl) ?_
    refine Rg_run rfl (o_iaR Tryz.underlying30 Tryz.sizeOf5 hx rfl rfl (by first | omega | (unfold I64; omega) | (simp; done) | (simp; omega) | (simp at *; omega))) ?_
    refine Rg_run rfl (o_ldR Tryz.isAgg5 hx rfl rfl (getE 0 (by omega)) rfl) ?_
    refine Rg_run rfl (o_assignh (v := .int _ _) rfl) ?_
    refine Rg_run rfl (o_assignh (v := .int _ _) rfl) ?_
    refine Rg_nil (W_seq (W_seq (W_region ?_)))
    refine Rg_run rfl (o_moveh (v := .int _ _) rfl) ?_
    refine Rg_run rfl (o_eql rfl rfl) ?_
    refine Rg_run rfl (o_moveh (v := .bool _) rfl) ?_
    refine Rg_may 2 19 rfl rfl rfl (fun hg => (o_moveh (v := .int _ _) rfl)) ?_
    refine Rg_may 2 19 rfl rfl rfl (fun hg => (o_eql (gsel (u := undef) hg) rfl)) ?_
    refine Rg_run rfl (o_and (u := undef) rfl rfl) ?_
    refine Rg_run rfl (o_moveh (v := .bool _) rfl) ?_
    refine Rg_may 6 23 rfl rfl rfl (fun hg => (o_moveh (v := .int _ _) rfl)) ?_
    refine Rg_may 6 23 rfl rfl rfl (fun hg => (o_gtr (gsel (u := undef) hg) rfl)) ?_
    refine Rg_run rfl (o_or (u := undef) rfl rfl) ?_
    refine Rg_nil ?_
    refine W_cond rfl (fun hc2 => ?_) (fun hc2 => ?_)
    · skip
      rw [numC] at hc2
      refine W_seq (W_region ?_)
      refine Rg_run rfl o_assignc ?_
      refine Rg_run rfl o_assignc ?_
      refine Rg_nil (W_ret ?_)
      refine ⟨_, res_tmp2 rfl rfl rfl, ?_⟩
      rw [hnr, numGo_bad hkl hc2]; exact ⟨rfl, hX⟩
    rw [numC] at hc2
    refine W_skip (W_seq (W_region ?_))
    refine Rg_run rfl (o_moveh (v := .int _ _) rfl) ?_
    refine Rg_run rfl (o_shlU (a := y) (n := 7) rfl rfl (by decide)) ?_
    refine Rg_run rfl (o_moveh (v := .int _ _) rfl) ?_
    refine Rg_run rfl (o_bandB (a := l.getD k 0) (b := 127) rfl rfl) ?_
    refine Rg_run rfl (o_convB8 Tryz.underlying5 Tryz.underlying50 rfl) ?_
    refine Rg_run rfl (o_bor (a := y <<< 7) (b := BitVec.ofNat 64 ((l.getD k 0) &&& 127).toNat) rfl rfl) ?_
    refine Rg_run rfl (o_assignh (v := .int _ _) rfl) ?_
    refine Rg_nil (W_seq (W_region ?_))
    refine Rg_run rfl (o_moveh (v := .int _ _) rfl) ?_
    refine Rg_run rfl (o_lss rfl rfl) ?_
    refine Rg_nil ?_
    refine W_cond rfl (fun hc3 => ?_) (fun hc3 => ?_)
    · skip
      have hs3 : (l.getD k 0).toNat < 128 := by have := of_decide_eq_true hc3; omega
      refine W_seq (W_region ?_)
      refine Rg_run rfl (o_moveh (v := .int _ _) rfl) ?_
      refine Rg_run rfl (o_moveh (v := .int _ _) rfl) ?_
      refine Rg_run rfl (o_add rfl rfl (by first | omega | (unfold I64; omega) | (simp; done) | (simp; omega) | (simp at *; omega))) ?_
      refine Rg_run rfl (o_assignh (v := .int _ _) rfl) ?_
      refine Rg_run rfl (o_assignh (v := .int _ _) rfl) ?_
      refine Rg_nil (W_ret ?_)
      refine ⟨_, res_tmp2 rfl rfl rfl, ?_⟩
      rw [hnr, numGo_stop hkl (by rw [hc2]; decide) hs3]; exact ⟨rfl, hX⟩
    have hs3 : ¬ (l.getD k 0).toNat < 128 := by have := of_decide_eq_false hc3; omega
    refine W_skip (W_region ?_)
    refine Rg_run rfl (o_add rfl rfl (by first | omega | (unfold I64; omega) | (simp; done) | (simp; omega) | (simp at *; omega))) ?_
    refine Rg_run rfl (o_moveh (v := .int _ _) rfl) ?_
    refine Rg_nil ?_
    refine ⟨(k + 1, grp y (l.getD k 0)), ⟨?_, ?_, trivial⟩, ?_, ⟨?_, hXL1⟩, ?_⟩
    · first | rfl | (go_num) | (exact congrArg _ (by omega))
    · first | rfl | (go_num) | (exact congrArg _ (by omega))
    · repeat (first | exact off_refl _ _ | exact off_mix | refine off_put rfl ?_ | refine off_putN ?_ | refine off_setL rfl ?_ | refine off_mix' rfl ?_)
    · exact ⟨by omega, hnr.trans (numGo_on hkl (by rw [hc2]; decide) hs3)⟩
    · show l.length - (k + 1) < l.length - k; omega
  replace hc1 := of_decide_eq_false hc1
  refine W_exit (exAt_hit (W_seq (W_region ?_)))
  refine Rg_run rfl o_assignc ?_
  refine Rg_run rfl o_assignc ?_
  refine Rg_nil (W_ret ?_)
  refine ⟨_, res_tmp2 rfl rfl rfl, ?_⟩
  rw [hnr, List.drop_of_length_le (by omega)]; exact ⟨rfl, hX⟩

theorem rtake_ok (v0 : Value) (D : Nat → Prop) (l : List UInt8) (e0 : Int) (n : Nat) (w : World) (hr0 : Rr 164 D w v0 (l, e0)) (hn : n ≤ l.length) (hl9 : l.length ≤ 100000000) : Ok Tryz.prog 99 #[v0, .int .i64 (n : Int)] w fun v w' => Own encB 1 5 (Fsh w w') w' v (l.take n) ∧ Rr 164 D w' v0 (l.drop n, e0) ∧ Bel False (PtB v0) w w' := by
  obtain ⟨b, u, rfl, hDb, hb, hx⟩ := hr0
  replace hx : Rd encB 1 (fun g => D g ∧ g ≠ b) w u l := hx
  replace hb : Box w b 164 [u, .int .i64 e0] := hb
  obtain ⟨ax, cx, rfl, hx⟩ := hx
  have hbl := hb.lt
  refine Ok_of_W 23 Tryz.func99 rfl rfl rfl ?_
  have hX : Bel False ((PtB (.pointer (some ⟨b, 0, none⟩)))) w w := Bel.refl _ _
  refine W_seq (W_region ?_)
  refine Rg_run rfl o_assignc ?_
  refine Rg_nil (W_seq (W_region ?_))
  refine Rg_run rfl (o_moveh (v := .pointer _) rfl) ?_
  refine Rg_run rfl (o_nilc rfl) ?_
  refine Rg_run rfl (o_fa Tryz.underlying164 rfl Tryz.sizeOf30 rfl) ?_
  refine Rg_run rfl (o_load1 Tryz.isAgg30 rfl (hb.at.get 0 rfl)) ?_
  refine Rg_run rfl (o_moveh (v := .int _ _) rfl) ?_
  refine Rg_run rfl (o_slto (j := n) Tryz.underlying30 Tryz.sizeOf5 rfl rfl (by have := hx.le; omega)) ?_
  refine Rg_enter rfl (o_call1 Tryz.call90 rfl) (Ok.mono (bclone_ok (.slice ax n cx) _ (l.take n) _ ⟨ax, cx, (by rw [List.length_take, Nat.min_eq_left hn]), hx.take n⟩ (by rw [List.length_take]; omega)) ?_)
  rintro v12 w1 ⟨hown12, x2⟩
  have z3 := Bel.size x2
  replace hX := Bel.ex hX x2
  replace hb := hb.ext x2
  replace hx := hx.ext x2
  refine Rg_run rfl (o_assignh (v := v12) rfl) ?_
  refine Rg_nil (W_seq (W_region ?_))
  refine Rg_run rfl (o_moveh (v := .pointer _) rfl) ?_
  refine Rg_run rfl (o_moveh (v := .pointer _) rfl) ?_
  refine Rg_run rfl (o_nilc rfl) ?_
  refine Rg_run rfl (o_fa Tryz.underlying164 rfl Tryz.sizeOf30 rfl) ?_
  refine Rg_run rfl (o_load1 Tryz.isAgg30 rfl (hb.at.get 0 rfl)) ?_
  refine Rg_run rfl (o_moveh (v := .int _ _) rfl) ?_
  refine Rg_run rfl (o_slfrom2 (j := n) Tryz.underlying30 Tryz.sizeOf5 rfl rfl hn hx.le) ?_
  refine Rg_run rfl (o_nilc rfl) ?_
  refine Rg_run rfl (o_fa Tryz.underlying164 rfl Tryz.sizeOf30 rfl) ?_
  refine Rg_store (v := .slice _ _ _) rfl Tryz.sizeOf30 rfl rfl hb rfl rfl rfl ?_
  intro w4 c5 hb
  change Box _ _ _ ([_, .int _ _]) at hb
  have z6 := Bel.size c5
  replace hX := Bel.out hX c5 (fun g h1 h2 => by first | exact h2 | (cases h2; rfl))
  replace hx := hx.keep c5 (fun g h1 h2 h3 => h2.2 h3)
  replace hown12 := hown12.keepD c5 (fun g h1 h2 h3 => by omega)
  refine Rg_nil (W_seq (W_region ?_))
  refine Rg_run rfl (o_moveh (v := v12) rfl) ?_
  refine Rg_run rfl (o_assignh (v := v12) rfl) ?_
  refine Rg_nil (W_ret ?_)
  refine ⟨_, res_tmp rfl rfl, ?_⟩
  exact ⟨hown12.mono (fun g h1 h2 => by omega), ⟨b, _, rfl, hDb, hb, _, _, by rw [List.length_drop], hx.drop hn⟩, hX⟩

theorem ruint_ok (v0 : Value) (D : Nat → Prop) (s : RSt) (most : W64) (w : World) (hr0 : Rr 164 D w v0 s) (hl9 : s.1.length ≤ 100000000) : Ok Tryz.prog 100 #[v0, u64 most] w fun v w' => v = u64 (uintS s most).2 ∧ Rr 164 D w' v0 (uintS s most).1 ∧ Bel False (PtB v0) w w' := by
  obtain ⟨b, rfl⟩ := hr0.ptr
  refine Ok_of_W 32 Tryz.func100 rfl rfl rfl ?_
  have hX : Bel False ((PtB (.pointer (some ⟨b, 0, none⟩)))) w w := Bel.refl _ _
  refine W_seq (W_region ?_)
  refine Rg_run rfl o_assignc ?_
  refine Rg_nil (W_seq (W_seq (W_region ?_)))
  refine Rg_run rfl (o_moveh (v := .pointer (some ⟨b, 0, none⟩)) rfl) ?_
  refine Rg_enter rfl (o_call1 Tryz.call96 rfl) (Ok.mono (rok_ok (.pointer (some ⟨b, 0, none⟩)) _ s _ hr0) ?_)
  rintro _ w1 ⟨rfl, x2⟩
  have z3 := Bel.size x2
  replace hX := Bel.ex hX x2
  replace hr0 := hr0.ext x2
  refine Rg_run rfl (o_not rfl) ?_
  refine Rg_nil ?_
  refine W_cond rfl (fun hc1 => ?_) (fun hc1 => ?_)
  · skip
    have hok : ¬ (s.2 == 0) = true := by simpa using hc1
    refine W_seq (W_region ?_)
    refine Rg_run rfl o_assignc ?_
    refine Rg_nil (W_ret ?_)
    refine ⟨_, res_tmp rfl rfl, ?_⟩
    have e9 : uintS s most = (s, 0) := by rw [uintS, if_neg hok]
    rw [e9]; exact ⟨rfl, hr0, hX⟩
  have hok : (s.2 == 0) = true := by simpa using hc1
  refine W_skip (W_seq (W_region ?_))
  refine Rg_run rfl (o_moveh (v := .pointer (some ⟨b, 0, none⟩)) rfl) ?_
  refine Rg_enter rfl (o_call1 Tryz.call98 rfl) (Ok.mono (rnum_ok (.pointer (some ⟨b, 0, none⟩)) _ s.1 s.2 _ hr0) ?_)
  rintro _ w4 ⟨rfl, x5⟩
  have z6 := Bel.size x5
  replace hX := Bel.ex hX x5
  replace hr0 := hr0.ext x5
  refine Rg_run rfl (o_moveh (v := .tuple _) rfl) ?_
  refine Rg_run rfl (o_extract rfl rfl) ?_
  refine Rg_run rfl (o_extract rfl rfl) ?_
  refine Rg_run rfl (o_assignh (v := .int _ _) rfl) ?_
  refine Rg_run rfl (o_assignh (v := .int _ _) rfl) ?_
  refine Rg_nil (W_seq (W_seq (W_region ?_)))
  refine Rg_run rfl (o_moveh (v := .pointer (some ⟨b, 0, none⟩)) rfl) ?_
  refine Rg_run rfl (o_moveh (v := .int _ _) rfl) ?_
  refine Rg_run rfl (o_eql rfl rfl) ?_
  refine (Decidable.em ((numR s.1).2 = 0)).elim (fun hn0 => ?_) (fun hn0 => ?_)
  · skip
    refine Rg_enter rfl (o_call3 Tryz.call97 rfl rfl rfl) (Ok.mono (rref_ok (.pointer (some ⟨b, 0, none⟩)) _ s ((((numR s.1).2 : Nat) : Int) == 0) 6 _ hr0) ?_)
    rintro _ w7 ⟨rfl, hr0, x8⟩
    have z9 := Bel.size x8
    replace hX := Bel.out hX x8 (fun g h1 h2 => by first | exact h2 | omega)
    refine Rg_run rfl (o_not rfl) ?_
    refine Rg_run rfl (o_moveh (v := .bool _) rfl) ?_
    refine Rg_off 5 20 rfl rfl (congrArg Value.bool (show (!(!((((numR s.1).2 : Nat) : Int) == 0))) = true by rw [hn0]; rfl)) rfl rfl ?_
    refine Rg_off 5 20 rfl rfl (congrArg Value.bool (show (!(!((((numR s.1).2 : Nat) : Int) == 0))) = true by rw [hn0]; rfl)) rfl rfl ?_
    refine Rg_off 5 20 rfl rfl (congrArg Value.bool (show (!(!((((numR s.1).2 : Nat) : Int) == 0))) = true by rw [hn0]; rfl)) rfl rfl ?_
    refine Rg_off 5 20 rfl rfl (congrArg Value.bool (show (!(!((((numR s.1).2 : Nat) : Int) == 0))) = true by rw [hn0]; rfl)) rfl rfl ?_
    refine Rg_off 5 20 rfl rfl (congrArg Value.bool (show (!(!((((numR s.1).2 : Nat) : Int) == 0))) = true by rw [hn0]; rfl)) rfl rfl ?_
    refine Rg_off 5 20 rfl rfl (congrArg Value.bool (show (!(!((((numR s.1).2 : Nat) : Int) == 0))) = true by rw [hn0]; rfl)) rfl rfl ?_
    refine Rg_run rfl (o_pickT (v := .bool _) (congrArg Value.bool (show (!(!((((numR s.1).2 : Nat) : Int) == 0))) = true by rw [hn0]; rfl)) rfl) ?_
    refine Rg_nil ?_
    refine W_cond_true rfl ?_
    refine W_seq (W_region ?_)
    refine Rg_run rfl o_assignc ?_
    refine Rg_nil (W_ret ?_)
    refine ⟨_, res_tmp rfl rfl, ?_⟩
    rw [refS_yes (show ((((numR s.1).2 : Nat) : Int) == 0) = true by rw [hn0]; rfl) hok] at hr0
    have e9 : uintS s most = ((s.1, 6), 0) := by rw [uintS, if_pos hok, if_pos hn0]
    rw [e9]; exact ⟨rfl, hr0, hX⟩
  refine Rg_enter rfl (o_call3 Tryz.call97 rfl rfl rfl) (Ok.mono (rref_ok (.pointer (some ⟨b, 0, none⟩)) _ s ((((numR s.1).2 : Nat) : Int) == 0) 6 _ hr0) ?_)
  rintro _ w10 ⟨rfl, hr0, x11⟩
  have z12 := Bel.size x11
  replace hX := Bel.out hX x11 (fun g h1 h2 => by first | exact h2 | omega)
  refine Rg_run rfl (o_not rfl) ?_
  refine Rg_run rfl (o_moveh (v := .bool _) rfl) ?_
  rw [refS_no (show ((((numR s.1).2 : Nat) : Int) == 0) = false from beq_eq_false_iff_ne.2 (by omega))] at hr0
  refine Rg_on 5 20 rfl (congrArg Value.bool (show (!(!((((numR s.1).2 : Nat) : Int) == 0))) = false by rw [Bool.not_not]; exact beq_eq_false_iff_ne.2 (by omega))) ?_
  refine Rg_run rfl (o_moveh (v := .pointer (some ⟨b, 0, none⟩)) rfl) ?_
  refine Rg_on 5 20 rfl (congrArg Value.bool (show (!(!((((numR s.1).2 : Nat) : Int) == 0))) = false by rw [Bool.not_not]; exact beq_eq_false_iff_ne.2 (by omega))) ?_
  refine Rg_run rfl (o_moveh (v := .int _ _) rfl) ?_
  refine Rg_on 5 20 rfl (congrArg Value.bool (show (!(!((((numR s.1).2 : Nat) : Int) == 0))) = false by rw [Bool.not_not]; exact beq_eq_false_iff_ne.2 (by omega))) ?_
  refine Rg_run rfl (o_moveh (v := .int _ _) rfl) ?_
  refine Rg_on 5 20 rfl (congrArg Value.bool (show (!(!((((numR s.1).2 : Nat) : Int) == 0))) = false by rw [Bool.not_not]; exact beq_eq_false_iff_ne.2 (by omega))) ?_
  refine Rg_run rfl (o_gtr rfl rfl) ?_
  refine (Decidable.em ((decide ((most.toNat : Int) < (((numR s.1).1.toNat : Nat) : Int))) = true)).elim (fun hvm => ?_) (fun hvm => ?_)
  · skip
    refine Rg_on 5 20 rfl (congrArg Value.bool (show (!(!((((numR s.1).2 : Nat) : Int) == 0))) = false by rw [Bool.not_not]; exact beq_eq_false_iff_ne.2 (by omega))) ?_
    refine Rg_enter rfl (o_call3 Tryz.call97 rfl rfl rfl) (Ok.mono (rref_ok (.pointer (some ⟨b, 0, none⟩)) _ s (decide ((most.toNat : Int) < (((numR s.1).1.toNat : Nat) : Int))) 2 _ hr0) ?_)
    rintro _ w13 ⟨rfl, hr0, x14⟩
    have z15 := Bel.size x14
    replace hX := Bel.out hX x14 (fun g h1 h2 => by first | exact h2 | omega)
    refine Rg_on 5 20 rfl (congrArg Value.bool (show (!(!((((numR s.1).2 : Nat) : Int) == 0))) = false by rw [Bool.not_not]; exact beq_eq_false_iff_ne.2 (by omega))) ?_
    refine Rg_run rfl (o_not rfl) ?_
    refine Rg_run rfl (o_pickF (v := .bool _) (congrArg Value.bool (show (!(!((((numR s.1).2 : Nat) : Int) == 0))) = false by rw [Bool.not_not]; exact beq_eq_false_iff_ne.2 (by omega))) rfl) ?_
    refine Rg_nil ?_
    refine W_cond_true (congrArg Value.bool (show (!(!(decide ((most.toNat : Int) < (((numR s.1).1.toNat : Nat) : Int))))) = true by rw [hvm]; rfl)) ?_
    refine W_seq (W_region ?_)
    refine Rg_run rfl o_assignc ?_
    refine Rg_nil (W_ret ?_)
    refine ⟨_, res_tmp rfl rfl, ?_⟩
    rw [refS_yes (show (decide ((most.toNat : Int) < (((numR s.1).1.toNat : Nat) : Int))) = true from hvm) hok] at hr0
    have e9 : uintS s most = ((s.1, 2), 0) := by rw [uintS, if_pos hok, if_neg hn0, if_pos (by have := of_decide_eq_true hvm; omega)]
    rw [e9]; exact ⟨rfl, hr0, hX⟩
  refine Rg_on 5 20 rfl (congrArg Value.bool (show (!(!((((numR s.1).2 : Nat) : Int) == 0))) = false by rw [Bool.not_not]; exact beq_eq_false_iff_ne.2 (by omega))) ?_
  refine Rg_enter rfl (o_call3 Tryz.call97 rfl rfl rfl) (Ok.mono (rref_ok (.pointer (some ⟨b, 0, none⟩)) _ s (decide ((most.toNat : Int) < (((numR s.1).1.toNat : Nat) : Int))) 2 _ hr0) ?_)
  rintro _ w16 ⟨rfl, hr0, x17⟩
  have z18 := Bel.size x17
  replace hX := Bel.out hX x17 (fun g h1 h2 => by first | exact h2 | omega)
  refine Rg_on 5 20 rfl (congrArg Value.bool (show (!(!((((numR s.1).2 : Nat) : Int) == 0))) = false by rw [Bool.not_not]; exact beq_eq_false_iff_ne.2 (by omega))) ?_
  refine Rg_run rfl (o_not rfl) ?_
  refine Rg_run rfl (o_pickF (v := .bool _) (congrArg Value.bool (show (!(!((((numR s.1).2 : Nat) : Int) == 0))) = false by rw [Bool.not_not]; exact beq_eq_false_iff_ne.2 (by omega))) rfl) ?_
  refine Rg_nil ?_
  refine W_cond_false (congrArg Value.bool (show (!(!(decide ((most.toNat : Int) < (((numR s.1).1.toNat : Nat) : Int))))) = false by rw [Bool.not_not]; simpa using hvm)) ?_
  refine W_skip (W_seq (W_region ?_))
  rw [refS_no (show (decide ((most.toNat : Int) < (((numR s.1).1.toNat : Nat) : Int))) = false by simpa using hvm)] at hr0
  refine Rg_run rfl (o_moveh (v := .pointer (some ⟨b, 0, none⟩)) rfl) ?_
  refine Rg_run rfl (o_moveh (v := .int _ _) rfl) ?_
  refine Rg_enter rfl (o_call2 Tryz.call99 rfl rfl) (Ok.mono (rtake_ok (.pointer (some ⟨b, 0, none⟩)) _ s.1 s.2 (numR s.1).2 _ hr0 (numR_le _) hl9) ?_)
  rintro _ w19 ⟨_, hr0, x20⟩
  have z21 := Bel.size x20
  replace hX := Bel.out hX x20 (fun g h1 h2 => by first | exact h2 | omega)
  refine Rg_nil (W_seq (W_region ?_))
  refine Rg_run rfl (o_moveh (v := .int _ _) rfl) ?_
  refine Rg_run rfl (o_assignh (v := .int _ _) rfl) ?_
  refine Rg_nil (W_ret ?_)
  refine ⟨_, res_tmp rfl rfl, ?_⟩
  have e9 : uintS s most = ((s.1.drop (numR s.1).2, s.2), (numR s.1).1) := by rw [uintS, if_pos hok, if_neg hn0, if_neg (by intro h; exact hvm (decide_eq_true (by omega)))]
  rw [e9]; exact ⟨rfl, hr0, hX⟩

theorem rcount_ok (v0 : Value) (D : Nat → Prop) (s : RSt) (most : Nat) (hmost : most ≤ 100000000) (w : World) (hr0 : Rr 164 D w v0 s) (hl9 : s.1.length ≤ 100000000) : Ok Tryz.prog 53 #[v0, .int .i64 (most : Int)] w fun v w' => v = .int .i64 ((countS s most).2 : Int) ∧ Rr 164 D w' v0 (countS s most).1 ∧ Bel False (PtB v0) w w' := by
  obtain ⟨b, rfl⟩ := hr0.ptr
  have hm0 : decide ((most : Int) < 0) = false := decide_eq_false (by omega)
  have hm64 : (BitVec.ofNat 64 most).toNat = most := by rw [BitVec.toNat_ofNat]; exact Nat.mod_eq_of_lt (by omega)
  refine Ok_of_W 41 Tryz.func53 rfl rfl rfl ?_
  have hX : Bel False ((PtB (.pointer (some ⟨b, 0, none⟩)))) w w := Bel.refl _ _
  refine W_seq (W_region ?_)
  refine Rg_run rfl o_assignc ?_
  refine Rg_nil (W_seq (W_seq (W_region ?_)))
  refine Rg_run rfl (o_moveh (v := .pointer (some ⟨b, 0, none⟩)) rfl) ?_
  refine Rg_enter rfl (o_call1 Tryz.call96 rfl) (Ok.mono (rok_ok (.pointer (some ⟨b, 0, none⟩)) _ s _ hr0) ?_)
  rintro _ w1 ⟨rfl, x2⟩
  have z3 := Bel.size x2
  replace hX := Bel.ex hX x2
  replace hr0 := hr0.ext x2
  refine Rg_run rfl (o_not rfl) ?_
  refine (Decidable.em ((s.2 == 0) = true)).elim (fun hok => ?_) (fun hok => ?_)
  · skip
    refine Rg_run rfl (o_moveh (v := .bool _) rfl) ?_
    refine Rg_on 3 10 rfl (congrArg Value.bool (show (!(s.2 == 0)) = false by rw [hok]; rfl)) ?_
    refine Rg_run rfl (o_moveh (v := .pointer (some ⟨b, 0, none⟩)) rfl) ?_
    refine Rg_on 3 10 rfl (congrArg Value.bool (show (!(s.2 == 0)) = false by rw [hok]; rfl)) ?_
    refine Rg_run rfl (o_moveh (v := .int _ _) rfl) ?_
    refine Rg_on 3 10 rfl (congrArg Value.bool (show (!(s.2 == 0)) = false by rw [hok]; rfl)) ?_
    refine Rg_run rfl (o_lss rfl rfl) ?_
    refine Rg_on 3 10 rfl (congrArg Value.bool (show (!(s.2 == 0)) = false by rw [hok]; rfl)) ?_
    refine Rg_enter rfl (o_call3 Tryz.call97 rfl rfl rfl) (Ok.mono (rref_ok (.pointer (some ⟨b, 0, none⟩)) _ s (decide ((most : Int) < 0)) 1 _ hr0) ?_)
    rintro _ w4 ⟨rfl, hr0, x5⟩
    have z6 := Bel.size x5
    replace hX := Bel.out hX x5 (fun g h1 h2 => by first | exact h2 | omega)
    refine Rg_on 3 10 rfl (congrArg Value.bool (show (!(s.2 == 0)) = false by rw [hok]; rfl)) ?_
    refine Rg_run rfl (o_not rfl) ?_
    refine Rg_run rfl (o_pickF (v := .bool _) (congrArg Value.bool (show (!(s.2 == 0)) = false by rw [hok]; rfl)) rfl) ?_
    refine Rg_nil ?_
    refine W_cond_false (congrArg Value.bool (show (!(!(decide ((most : Int) < 0)))) = false by rw [hm0]; rfl)) ?_
    refine W_skip (W_seq (W_region ?_))
    rw [refS_no hm0] at hr0
    refine Rg_run rfl (o_moveh (v := .pointer (some ⟨b, 0, none⟩)) rfl) ?_
    refine Rg_enter rfl (o_call1 Tryz.call98 rfl) (Ok.mono (rnum_ok (.pointer (some ⟨b, 0, none⟩)) _ s.1 s.2 _ hr0) ?_)
    rintro _ w7 ⟨rfl, x8⟩
    have z9 := Bel.size x8
    replace hX := Bel.ex hX x8
    replace hr0 := hr0.ext x8
    refine Rg_run rfl (o_moveh (v := .tuple _) rfl) ?_
    refine Rg_run rfl (o_extract rfl rfl) ?_
    refine Rg_run rfl (o_extract rfl rfl) ?_
    refine Rg_run rfl (o_assignh (v := .int _ _) rfl) ?_
    refine Rg_run rfl (o_assignh (v := .int _ _) rfl) ?_
    refine Rg_nil (W_seq (W_seq (W_region ?_)))
    refine Rg_run rfl (o_moveh (v := .pointer (some ⟨b, 0, none⟩)) rfl) ?_
    refine Rg_run rfl (o_moveh (v := .int _ _) rfl) ?_
    refine Rg_run rfl (o_eql rfl rfl) ?_
    refine (Decidable.em ((numR s.1).2 = 0)).elim (fun hn0 => ?_) (fun hn0 => ?_)
    · skip
      refine Rg_enter rfl (o_call3 Tryz.call97 rfl rfl rfl) (Ok.mono (rref_ok (.pointer (some ⟨b, 0, none⟩)) _ s ((((numR s.1).2 : Nat) : Int) == 0) 6 _ hr0) ?_)
      rintro _ w10 ⟨rfl, hr0, x11⟩
      have z12 := Bel.size x11
      replace hX := Bel.out hX x11 (fun g h1 h2 => by first | exact h2 | omega)
      refine Rg_run rfl (o_not rfl) ?_
      refine Rg_run rfl (o_moveh (v := .bool _) rfl) ?_
      refine Rg_off 5 27 rfl rfl (congrArg Value.bool (show (!(!((((numR s.1).2 : Nat) : Int) == 0))) = true by rw [hn0]; rfl)) rfl rfl ?_
      refine Rg_off 5 27 rfl rfl (congrArg Value.bool (show (!(!((((numR s.1).2 : Nat) : Int) == 0))) = true by rw [hn0]; rfl)) rfl rfl ?_
      refine Rg_off 5 27 rfl rfl (congrArg Value.bool (show (!(!((((numR s.1).2 : Nat) : Int) == 0))) = true by rw [hn0]; rfl)) rfl rfl ?_
      refine Rg_off 5 27 rfl rfl (congrArg Value.bool (show (!(!((((numR s.1).2 : Nat) : Int) == 0))) = true by rw [hn0]; rfl)) rfl rfl ?_
      refine Rg_off 5 27 rfl rfl (congrArg Value.bool (show (!(!((((numR s.1).2 : Nat) : Int) == 0))) = true by rw [hn0]; rfl)) rfl rfl ?_
      refine Rg_off 5 27 rfl rfl (congrArg Value.bool (show (!(!((((numR s.1).2 : Nat) : Int) == 0))) = true by rw [hn0]; rfl)) rfl rfl ?_
      refine Rg_off 5 27 rfl rfl (congrArg Value.bool (show (!(!((((numR s.1).2 : Nat) : Int) == 0))) = true by rw [hn0]; rfl)) rfl rfl ?_
      refine Rg_run rfl (o_pickT (v := .bool _) (congrArg Value.bool (show (!(!((((numR s.1).2 : Nat) : Int) == 0))) = true by rw [hn0]; rfl)) rfl) ?_
      refine Rg_nil ?_
      refine W_cond_true rfl ?_
      refine W_seq (W_region ?_)
      refine Rg_run rfl o_assignc ?_
      refine Rg_nil (W_ret ?_)
      refine ⟨_, res_tmp rfl rfl, ?_⟩
      rw [refS_yes (show ((((numR s.1).2 : Nat) : Int) == 0) = true by rw [hn0]; rfl) hok] at hr0
      have e9 : countS s most = ((s.1, 6), 0) := by rw [countS, if_pos hok, if_pos hn0]
      rw [e9]; exact ⟨rfl, hr0, hX⟩
    refine Rg_enter rfl (o_call3 Tryz.call97 rfl rfl rfl) (Ok.mono (rref_ok (.pointer (some ⟨b, 0, none⟩)) _ s ((((numR s.1).2 : Nat) : Int) == 0) 6 _ hr0) ?_)
    rintro _ w13 ⟨rfl, hr0, x14⟩
    have z15 := Bel.size x14
    replace hX := Bel.out hX x14 (fun g h1 h2 => by first | exact h2 | omega)
    refine Rg_run rfl (o_not rfl) ?_
    refine Rg_run rfl (o_moveh (v := .bool _) rfl) ?_
    rw [refS_no (show ((((numR s.1).2 : Nat) : Int) == 0) = false from beq_eq_false_iff_ne.2 (by omega))] at hr0
    refine Rg_on 5 27 rfl (congrArg Value.bool (show (!(!((((numR s.1).2 : Nat) : Int) == 0))) = false by rw [Bool.not_not]; exact beq_eq_false_iff_ne.2 (by omega))) ?_
    refine Rg_run rfl (o_moveh (v := .pointer (some ⟨b, 0, none⟩)) rfl) ?_
    refine Rg_on 5 27 rfl (congrArg Value.bool (show (!(!((((numR s.1).2 : Nat) : Int) == 0))) = false by rw [Bool.not_not]; exact beq_eq_false_iff_ne.2 (by omega))) ?_
    refine Rg_run rfl (o_moveh (v := .int _ _) rfl) ?_
    refine Rg_on 5 27 rfl (congrArg Value.bool (show (!(!((((numR s.1).2 : Nat) : Int) == 0))) = false by rw [Bool.not_not]; exact beq_eq_false_iff_ne.2 (by omega))) ?_
    refine Rg_run rfl (o_moveh (v := .int _ _) rfl) ?_
    refine Rg_on 5 27 rfl (congrArg Value.bool (show (!(!((((numR s.1).2 : Nat) : Int) == 0))) = false by rw [Bool.not_not]; exact beq_eq_false_iff_ne.2 (by omega))) ?_
    refine Rg_run rfl (o_convV (n := most) Tryz.underlying3 Tryz.underlying50 rfl (by omega)) ?_
    refine Rg_on 5 27 rfl (congrArg Value.bool (show (!(!((((numR s.1).2 : Nat) : Int) == 0))) = false by rw [Bool.not_not]; exact beq_eq_false_iff_ne.2 (by omega))) ?_
    refine Rg_run rfl (o_gtr rfl rfl) ?_
    refine (Decidable.em ((decide ((((BitVec.ofNat 64 most).toNat : Nat) : Int) < (((numR s.1).1.toNat : Nat) : Int))) = true)).elim (fun hvm => ?_) (fun hvm => ?_)
    · skip
      refine Rg_on 5 27 rfl (congrArg Value.bool (show (!(!((((numR s.1).2 : Nat) : Int) == 0))) = false by rw [Bool.not_not]; exact beq_eq_false_iff_ne.2 (by omega))) ?_
      refine Rg_enter rfl (o_call3 Tryz.call97 rfl rfl rfl) (Ok.mono (rref_ok (.pointer (some ⟨b, 0, none⟩)) _ s (decide ((((BitVec.ofNat 64 most).toNat : Nat) : Int) < (((numR s.1).1.toNat : Nat) : Int))) 3 _ hr0) ?_)
      rintro _ w16 ⟨rfl, hr0, x17⟩
      have z18 := Bel.size x17
      replace hX := Bel.out hX x17 (fun g h1 h2 => by first | exact h2 | omega)
      refine Rg_on 5 27 rfl (congrArg Value.bool (show (!(!((((numR s.1).2 : Nat) : Int) == 0))) = false by rw [Bool.not_not]; exact beq_eq_false_iff_ne.2 (by omega))) ?_
      refine Rg_run rfl (o_not rfl) ?_
      refine Rg_run rfl (o_pickF (v := .bool _) (congrArg Value.bool (show (!(!((((numR s.1).2 : Nat) : Int) == 0))) = false by rw [Bool.not_not]; exact beq_eq_false_iff_ne.2 (by omega))) rfl) ?_
      refine Rg_nil ?_
      refine W_cond_true (congrArg Value.bool (show (!(!(decide ((((BitVec.ofNat 64 most).toNat : Nat) : Int) < (((numR s.1).1.toNat : Nat) : Int))))) = true by rw [hvm]; rfl)) ?_
      refine W_seq (W_region ?_)
      refine Rg_run rfl o_assignc ?_
      refine Rg_nil (W_ret ?_)
      refine ⟨_, res_tmp rfl rfl, ?_⟩
      rw [refS_yes (show (decide ((((BitVec.ofNat 64 most).toNat : Nat) : Int) < (((numR s.1).1.toNat : Nat) : Int))) = true from hvm) hok] at hr0
      have e9 : countS s most = ((s.1, 3), 0) := by rw [countS, if_pos hok, if_neg hn0, if_pos (by have := of_decide_eq_true hvm; omega)]
      rw [e9]; exact ⟨rfl, hr0, hX⟩
    refine Rg_on 5 27 rfl (congrArg Value.bool (show (!(!((((numR s.1).2 : Nat) : Int) == 0))) = false by rw [Bool.not_not]; exact beq_eq_false_iff_ne.2 (by omega))) ?_
    refine Rg_enter rfl (o_call3 Tryz.call97 rfl rfl rfl) (Ok.mono (rref_ok (.pointer (some ⟨b, 0, none⟩)) _ s (decide ((((BitVec.ofNat 64 most).toNat : Nat) : Int) < (((numR s.1).1.toNat : Nat) : Int))) 3 _ hr0) ?_)
    rintro _ w19 ⟨rfl, hr0, x20⟩
    have z21 := Bel.size x20
    replace hX := Bel.out hX x20 (fun g h1 h2 => by first | exact h2 | omega)
    refine Rg_on 5 27 rfl (congrArg Value.bool (show (!(!((((numR s.1).2 : Nat) : Int) == 0))) = false by rw [Bool.not_not]; exact beq_eq_false_iff_ne.2 (by omega))) ?_
    refine Rg_run rfl (o_not rfl) ?_
    refine Rg_run rfl (o_pickF (v := .bool _) (congrArg Value.bool (show (!(!((((numR s.1).2 : Nat) : Int) == 0))) = false by rw [Bool.not_not]; exact beq_eq_false_iff_ne.2 (by omega))) rfl) ?_
    refine Rg_nil ?_
    refine W_cond_false (congrArg Value.bool (show (!(!(decide ((((BitVec.ofNat 64 most).toNat : Nat) : Int) < (((numR s.1).1.toNat : Nat) : Int))))) = false by rw [Bool.not_not]; simpa using hvm)) ?_
    refine W_skip (W_seq (W_region ?_))
    rw [refS_no (show (decide ((((BitVec.ofNat 64 most).toNat : Nat) : Int) < (((numR s.1).1.toNat : Nat) : Int))) = false by simpa using hvm)] at hr0
    refine Rg_run rfl (o_moveh (v := .pointer (some ⟨b, 0, none⟩)) rfl) ?_
    refine Rg_run rfl (o_moveh (v := .int _ _) rfl) ?_
    refine Rg_enter rfl (o_call2 Tryz.call99 rfl rfl) (Ok.mono (rtake_ok (.pointer (some ⟨b, 0, none⟩)) _ s.1 s.2 (numR s.1).2 _ hr0 (numR_le _) hl9) ?_)
    rintro _ w22 ⟨_, hr0, x23⟩
    have z24 := Bel.size x23
    replace hX := Bel.out hX x23 (fun g h1 h2 => by first | exact h2 | omega)
    refine Rg_nil (W_seq (W_region ?_))
    refine Rg_run rfl (o_moveh (v := .int _ _) rfl) ?_
    refine Rg_run rfl (o_convU (n := (numR s.1).1.toNat) Tryz.underlying50 Tryz.underlying3 rfl rfl (by have := hvm; simp only [decide_eq_true_eq] at this; omega)) ?_
    refine Rg_run rfl (o_assignh (v := .int _ _) rfl) ?_
    refine Rg_nil (W_ret ?_)
    refine ⟨_, res_tmp rfl rfl, ?_⟩
    have e9 : countS s most = ((s.1.drop (numR s.1).2, s.2), (numR s.1).1.toNat) := by rw [countS, if_pos hok, if_neg hn0, if_neg (by intro h; exact hvm (decide_eq_true (by omega)))]
    rw [e9]; exact ⟨rfl, hr0, hX⟩
  refine Rg_run rfl (o_moveh (v := .bool _) rfl) ?_
  refine Rg_off 3 10 rfl rfl (congrArg Value.bool (show (!(s.2 == 0)) = true by simp only [Bool.not_eq_true] at hok; rw [hok]; rfl)) rfl rfl ?_
  refine Rg_off 3 10 rfl rfl (congrArg Value.bool (show (!(s.2 == 0)) = true by simp only [Bool.not_eq_true] at hok; rw [hok]; rfl)) rfl rfl ?_
  refine Rg_off 3 10 rfl rfl (congrArg Value.bool (show (!(s.2 == 0)) = true by simp only [Bool.not_eq_true] at hok; rw [hok]; rfl)) rfl rfl ?_
  refine Rg_off 3 10 rfl rfl (congrArg Value.bool (show (!(s.2 == 0)) = true by simp only [Bool.not_eq_true] at hok; rw [hok]; rfl)) rfl rfl ?_
  refine Rg_off 3 10 rfl rfl (congrArg Value.bool (show (!(s.2 == 0)) = true by simp only [Bool.not_eq_true] at hok; rw [hok]; rfl)) rfl rfl ?_
  refine Rg_run rfl (o_pickT (v := .bool _) (congrArg Value.bool (show (!(s.2 == 0)) = true by simp only [Bool.not_eq_true] at hok; rw [hok]; rfl)) rfl) ?_
  refine Rg_nil ?_
  refine W_cond_true rfl ?_
  refine W_seq (W_region ?_)
  refine Rg_run rfl o_assignc ?_
  refine Rg_nil (W_ret ?_)
  refine ⟨_, res_tmp rfl rfl, ?_⟩
  have e9 : countS s most = (s, 0) := by rw [countS, if_neg hok]
  rw [e9]; exact ⟨rfl, hr0, hX⟩

theorem rend_ok (v0 : Value) (D : Nat → Prop) (s : RSt) (w : World) (hr0 : Rr 164 D w v0 s) : Ok Tryz.prog 57 #[v0] w fun v w' => v = .int .i64 (endS s) ∧ Ext False w w' := by
  have hr1 := hr0
  obtain ⟨b, u, rfl, hDb, hb, hx⟩ := hr0
  obtain ⟨ax, cx, rfl, hx⟩ := hx
  refine Ok_of_W 15 Tryz.func57 rfl rfl rfl ?_
  have hX : Ext False w w := Bel.refl _ _
  refine W_seq (W_region ?_)
  refine Rg_run rfl o_assignc ?_
  refine Rg_nil (W_seq (W_seq (W_region ?_)))
  refine Rg_run rfl (o_moveh (v := .pointer _) rfl) ?_
  refine Rg_enter rfl (o_call1 Tryz.call96 rfl) (Ok.mono (rok_ok _ _ _ _ hr1) ?_)
  rintro _ w1 ⟨rfl, x2⟩
  replace hX := Bel.ex hX x2
  replace hb := hb.ext x2
  replace hx := hx.ext x2
  replace hr1 := hr1.ext x2
  refine (Decidable.em ((s.2 == 0) = true)).elim (fun hok => ?_) (fun hok => ?_)
  · skip
    refine Rg_run rfl (o_moveh (v := .bool _) rfl) ?_
    refine Rg_on 2 5 rfl (congrArg Value.bool hok) ?_
    refine Rg_run rfl (o_moveh (v := .pointer _) rfl) ?_
    refine Rg_on 2 5 rfl (congrArg Value.bool hok) ?_
    refine Rg_run rfl (o_nilc rfl) ?_
    refine Rg_on 2 5 rfl (congrArg Value.bool hok) ?_
    refine Rg_run rfl (o_fa Tryz.underlying164 rfl Tryz.sizeOf30 rfl) ?_
    refine Rg_on 2 5 rfl (congrArg Value.bool hok) ?_
    refine Rg_run rfl (o_load1 Tryz.isAgg30 rfl (hb.at.get 0 rfl)) ?_
    refine Rg_on 2 5 rfl (congrArg Value.bool hok) ?_
    refine Rg_run rfl (o_llen Tryz.underlying30 rfl) ?_
    refine Rg_on 2 5 rfl (congrArg Value.bool hok) ?_
    refine Rg_run rfl (o_gtr rfl rfl) ?_
    refine Rg_run rfl (o_pickT (v := .bool _) (congrArg Value.bool hok) rfl) ?_
    refine Rg_nil ?_
    refine W_cond rfl (fun hc1 => ?_) (fun hc1 => ?_)
    · skip
      have hne : s.1 ≠ [] := by intro e; rw [e] at hc1; simp at hc1
      refine W_seq (W_region ?_)
      refine Rg_run rfl o_assignc ?_
      refine Rg_nil (W_ret ?_)
      refine ⟨_, res_tmp rfl rfl, ?_⟩
      refine ⟨congrArg (Value.int .i64) ?_, hX⟩
      all_goals (rw [endS, if_pos ⟨hok, hne⟩])
    have hne : s.1 = [] := List.eq_nil_of_length_eq_zero (by have := of_decide_eq_false hc1; omega)
    refine W_skip (W_seq (W_region ?_))
    refine Rg_run rfl (o_moveh (v := .pointer _) rfl) ?_
    refine Rg_enter rfl (o_call1 Tryz.call56 rfl) (Ok.mono (rerr_ok _ _ _ _ hr1) ?_)
    rintro _ w3 ⟨rfl, x4⟩
    replace hX := Bel.ex hX x4
    replace hb := hb.ext x4
    replace hx := hx.ext x4
    replace hr1 := hr1.ext x4
    refine Rg_run rfl (o_assignh (v := .int _ _) rfl) ?_
    refine Rg_nil (W_ret ?_)
    refine ⟨_, res_tmp rfl rfl, ?_⟩
    refine ⟨congrArg (Value.int .i64) ?_, hX⟩
    all_goals (rw [endS, if_neg (fun h => h.2 hne)])
  refine Rg_run rfl (o_moveh (v := .bool _) rfl) ?_
  refine Rg_off 2 5 rfl rfl (congrArg Value.bool (show (s.2 == 0) = false by simpa using hok)) rfl rfl ?_
  refine Rg_off 2 5 rfl rfl (congrArg Value.bool (show (s.2 == 0) = false by simpa using hok)) rfl rfl ?_
  refine Rg_off 2 5 rfl rfl (congrArg Value.bool (show (s.2 == 0) = false by simpa using hok)) rfl rfl ?_
  refine Rg_off 2 5 rfl rfl (congrArg Value.bool (show (s.2 == 0) = false by simpa using hok)) rfl rfl ?_
  refine Rg_off 2 5 rfl rfl (congrArg Value.bool (show (s.2 == 0) = false by simpa using hok)) rfl rfl ?_
  refine Rg_off 2 5 rfl rfl (congrArg Value.bool (show (s.2 == 0) = false by simpa using hok)) rfl rfl ?_
  refine Rg_run rfl (o_pickF (v := .bool _) (congrArg Value.bool (show (s.2 == 0) = false by simpa using hok)) rfl) ?_
  refine Rg_nil ?_
  refine W_cond_false rfl ?_
  refine W_skip (W_seq (W_region ?_))
  refine Rg_run rfl (o_moveh (v := .pointer _) rfl) ?_
  refine Rg_enter rfl (o_call1 Tryz.call56 rfl) (Ok.mono (rerr_ok _ _ _ _ hr1) ?_)
  rintro _ w5 ⟨rfl, x6⟩
  replace hX := Bel.ex hX x6
  replace hb := hb.ext x6
  replace hx := hx.ext x6
  replace hr1 := hr1.ext x6
  refine Rg_run rfl (o_assignh (v := .int _ _) rfl) ?_
  refine Rg_nil (W_ret ?_)
  refine ⟨_, res_tmp rfl rfl, ?_⟩
  refine ⟨congrArg (Value.int .i64) ?_, hX⟩
  all_goals (rw [endS, if_neg (fun h => hok h.1)])

theorem rnumber_ok (v0 : Value) (D : Nat → Prop) (s : RSt) (most : Nat) (hmost : most ≤ 100000000) (w : World) (hr0 : Rr 164 D w v0 s) (hl9 : s.1.length ≤ 100000000) : Ok Tryz.prog 54 #[v0, .int .i64 (most : Int)] w fun v w' => v = .int .i64 ((uintS s (BitVec.ofNat 64 most)).2.toNat : Int) ∧ Rr 164 D w' v0 (uintS s (BitVec.ofNat 64 most)).1 ∧ Bel False (PtB v0) w w' := by
  have hm0 : decide ((most : Int) < 0) = false := decide_eq_false (by omega)
  have hum := uintS_le s (BitVec.ofNat 64 most)
  have hm64 : (BitVec.ofNat 64 most).toNat = most := by rw [BitVec.toNat_ofNat]; exact Nat.mod_eq_of_lt (by omega)
  refine Ok_of_W 20 Tryz.func54 rfl rfl rfl ?_
  have hX : Bel False ((PtB v0)) w w := Bel.refl _ _
  refine W_seq (W_region ?_)
  refine Rg_run rfl o_assignc ?_
  refine Rg_nil (W_seq (W_seq (W_region ?_)))
  refine Rg_run rfl (o_moveh (v := v0) rfl) ?_
  refine Rg_enter rfl (o_call1 Tryz.call96 rfl) (Ok.mono (rok_ok v0 _ s _ hr0) ?_)
  rintro _ w1 ⟨rfl, x2⟩
  have z3 := Bel.size x2
  replace hX := Bel.ex hX x2
  replace hr0 := hr0.ext x2
  refine Rg_run rfl (o_not rfl) ?_
  refine (Decidable.em ((s.2 == 0) = true)).elim (fun hok => ?_) (fun hok => ?_)
  · skip
    refine Rg_run rfl (o_moveh (v := .bool _) rfl) ?_
    refine Rg_on 3 8 rfl (congrArg Value.bool (show (!(s.2 == 0)) = false by rw [hok]; rfl)) ?_
    refine Rg_run rfl (o_moveh (v := v0) rfl) ?_
    refine Rg_on 3 8 rfl (congrArg Value.bool (show (!(s.2 == 0)) = false by rw [hok]; rfl)) ?_
    refine Rg_run rfl (o_moveh (v := .int _ _) rfl) ?_
    refine Rg_on 3 8 rfl (congrArg Value.bool (show (!(s.2 == 0)) = false by rw [hok]; rfl)) ?_
    refine Rg_run rfl (o_lss rfl rfl) ?_
    refine Rg_on 3 8 rfl (congrArg Value.bool (show (!(s.2 == 0)) = false by rw [hok]; rfl)) ?_
    refine Rg_enter rfl (o_call3 Tryz.call97 rfl rfl rfl) (Ok.mono (rref_ok v0 _ s (decide ((most : Int) < 0)) 1 _ hr0) ?_)
    rintro _ w4 ⟨rfl, hr0, x5⟩
    have z6 := Bel.size x5
    replace hX := Bel.out hX x5 (fun g h1 h2 => by first | exact h2 | omega)
    refine Rg_on 3 8 rfl (congrArg Value.bool (show (!(s.2 == 0)) = false by rw [hok]; rfl)) ?_
    refine Rg_run rfl (o_not rfl) ?_
    refine Rg_run rfl (o_pickF (v := .bool _) (congrArg Value.bool (show (!(s.2 == 0)) = false by rw [hok]; rfl)) rfl) ?_
    refine Rg_nil ?_
    refine W_cond_false (congrArg Value.bool (show (!(!(decide ((most : Int) < 0)))) = false by rw [hm0]; rfl)) ?_
    refine W_skip (W_seq (W_region ?_))
    rw [refS_no hm0] at hr0
    refine Rg_run rfl (o_moveh (v := v0) rfl) ?_
    refine Rg_run rfl (o_moveh (v := .int _ _) rfl) ?_
    refine Rg_run rfl (o_convV (n := most) Tryz.underlying3 Tryz.underlying50 rfl (by omega)) ?_
    refine Rg_enter rfl (o_call2 Tryz.call100 rfl rfl) (Ok.mono (ruint_ok v0 _ s (BitVec.ofNat 64 most) _ hr0 hl9) ?_)
    rintro _ w7 ⟨rfl, hr0, x8⟩
    have z9 := Bel.size x8
    replace hX := Bel.out hX x8 (fun g h1 h2 => by first | exact h2 | omega)
    refine Rg_run rfl (o_convU (n := (uintS s (BitVec.ofNat 64 most)).2.toNat) Tryz.underlying50 Tryz.underlying3 rfl rfl (by omega)) ?_
    refine Rg_run rfl (o_assignh (v := .int _ _) rfl) ?_
    refine Rg_nil (W_ret ?_)
    refine ⟨_, res_tmp rfl rfl, ?_⟩
    exact ⟨rfl, hr0, hX⟩
  refine Rg_run rfl (o_moveh (v := .bool _) rfl) ?_
  refine Rg_off 3 8 rfl rfl (congrArg Value.bool (show (!(s.2 == 0)) = true by simp only [Bool.not_eq_true] at hok; rw [hok]; rfl)) rfl rfl ?_
  refine Rg_off 3 8 rfl rfl (congrArg Value.bool (show (!(s.2 == 0)) = true by simp only [Bool.not_eq_true] at hok; rw [hok]; rfl)) rfl rfl ?_
  refine Rg_off 3 8 rfl rfl (congrArg Value.bool (show (!(s.2 == 0)) = true by simp only [Bool.not_eq_true] at hok; rw [hok]; rfl)) rfl rfl ?_
  refine Rg_off 3 8 rfl rfl (congrArg Value.bool (show (!(s.2 == 0)) = true by simp only [Bool.not_eq_true] at hok; rw [hok]; rfl)) rfl rfl ?_
  refine Rg_off 3 8 rfl rfl (congrArg Value.bool (show (!(s.2 == 0)) = true by simp only [Bool.not_eq_true] at hok; rw [hok]; rfl)) rfl rfl ?_
  refine Rg_run rfl (o_pickT (v := .bool _) (congrArg Value.bool (show (!(s.2 == 0)) = true by simp only [Bool.not_eq_true] at hok; rw [hok]; rfl)) rfl) ?_
  refine Rg_nil ?_
  refine W_cond_true rfl ?_
  refine W_seq (W_region ?_)
  refine Rg_run rfl o_assignc ?_
  refine Rg_nil (W_ret ?_)
  refine ⟨_, res_tmp rfl rfl, ?_⟩
  have e9 : uintS s (BitVec.ofNat 64 most) = (s, 0) := by rw [uintS, if_neg hok]
  rw [e9]; exact ⟨rfl, hr0, hX⟩

theorem rbytes_ok (v0 : Value) (D : Nat → Prop) (s : RSt) (most : Nat) (hmost : most ≤ 100000000) (w : World) (hr0 : Rr 164 D w v0 s) (hl9 : s.1.length ≤ 100000000) : Ok Tryz.prog 102 #[v0, .int .i64 (most : Int)] w fun v w' => Own encB 1 5 (Fsh w w') w' v (bytesS s most).2 ∧ Rr 164 D w' v0 (bytesS s most).1 ∧ Bel False (PtB v0) w w' := by
  obtain ⟨b, rfl⟩ := hr0.ptr
  have hm0 : decide ((most : Int) < 0) = false := decide_eq_false (by omega)
  have hm64 : (BitVec.ofNat 64 most).toNat = most := by rw [BitVec.toNat_ofNat]; exact Nat.mod_eq_of_lt (by omega)
  have hnl := numR_le s.1
  have hm65 : (BitVec.ofNat 64 (s.1.length - (numR s.1).2)).toNat = s.1.length - (numR s.1).2 := by rw [BitVec.toNat_ofNat]; exact Nat.mod_eq_of_lt (by omega)
  refine Ok_of_W 58 Tryz.func102 rfl rfl rfl ?_
  have hX : Bel False ((PtB (.pointer (some ⟨b, 0, none⟩)))) w w := Bel.refl _ _
  refine W_seq (W_region ?_)
  refine Rg_run rfl o_assignc ?_
  refine Rg_nil (W_seq (W_seq (W_region ?_)))
  refine Rg_run rfl (o_moveh (v := .pointer (some ⟨b, 0, none⟩)) rfl) ?_
  refine Rg_enter rfl (o_call1 Tryz.call96 rfl) (Ok.mono (rok_ok (.pointer (some ⟨b, 0, none⟩)) _ s _ hr0) ?_)
  rintro _ w1 ⟨rfl, x2⟩
  have z3 := Bel.size x2
  replace hX := Bel.ex hX x2
  replace hr0 := hr0.ext x2
  refine Rg_run rfl (o_not rfl) ?_
  refine (Decidable.em ((s.2 == 0) = true)).elim (fun hok => ?_) (fun hok => ?_)
  · skip
    refine Rg_run rfl (o_moveh (v := .bool _) rfl) ?_
    refine Rg_on 3 10 rfl (congrArg Value.bool (show (!(s.2 == 0)) = false by rw [hok]; rfl)) ?_
    refine Rg_run rfl (o_moveh (v := .pointer (some ⟨b, 0, none⟩)) rfl) ?_
    refine Rg_on 3 10 rfl (congrArg Value.bool (show (!(s.2 == 0)) = false by rw [hok]; rfl)) ?_
    refine Rg_run rfl (o_moveh (v := .int _ _) rfl) ?_
    refine Rg_on 3 10 rfl (congrArg Value.bool (show (!(s.2 == 0)) = false by rw [hok]; rfl)) ?_
    refine Rg_run rfl (o_lss rfl rfl) ?_
    refine Rg_on 3 10 rfl (congrArg Value.bool (show (!(s.2 == 0)) = false by rw [hok]; rfl)) ?_
    refine Rg_enter rfl (o_call3 Tryz.call97 rfl rfl rfl) (Ok.mono (rref_ok (.pointer (some ⟨b, 0, none⟩)) _ s (decide ((most : Int) < 0)) 1 _ hr0) ?_)
    rintro _ w4 ⟨rfl, hr0, x5⟩
    have z6 := Bel.size x5
    replace hX := Bel.out hX x5 (fun g h1 h2 => by first | exact h2 | omega)
    refine Rg_on 3 10 rfl (congrArg Value.bool (show (!(s.2 == 0)) = false by rw [hok]; rfl)) ?_
    refine Rg_run rfl (o_not rfl) ?_
    refine Rg_run rfl (o_pickF (v := .bool _) (congrArg Value.bool (show (!(s.2 == 0)) = false by rw [hok]; rfl)) rfl) ?_
    refine Rg_nil ?_
    refine W_cond_false (congrArg Value.bool (show (!(!(decide ((most : Int) < 0)))) = false by rw [hm0]; rfl)) ?_
    refine W_skip (W_seq (W_region ?_))
    rw [refS_no hm0] at hr0
    refine Rg_run rfl (o_moveh (v := .pointer (some ⟨b, 0, none⟩)) rfl) ?_
    refine Rg_enter rfl (o_call1 Tryz.call98 rfl) (Ok.mono (rnum_ok (.pointer (some ⟨b, 0, none⟩)) _ s.1 s.2 _ hr0) ?_)
    rintro _ w7 ⟨rfl, x8⟩
    have z9 := Bel.size x8
    replace hX := Bel.ex hX x8
    replace hr0 := hr0.ext x8
    refine Rg_run rfl (o_moveh (v := .tuple _) rfl) ?_
    refine Rg_run rfl (o_extract rfl rfl) ?_
    refine Rg_run rfl (o_extract rfl rfl) ?_
    refine Rg_run rfl (o_assignh (v := .int _ _) rfl) ?_
    refine Rg_run rfl (o_assignh (v := .int _ _) rfl) ?_
    refine Rg_nil (W_seq (W_seq (W_region ?_)))
    refine Rg_run rfl (o_moveh (v := .pointer (some ⟨b, 0, none⟩)) rfl) ?_
    refine Rg_run rfl (o_moveh (v := .int _ _) rfl) ?_
    refine Rg_run rfl (o_eql rfl rfl) ?_
    refine (Decidable.em ((numR s.1).2 = 0)).elim (fun hn0 => ?_) (fun hn0 => ?_)
    · skip
      refine Rg_enter rfl (o_call3 Tryz.call97 rfl rfl rfl) (Ok.mono (rref_ok (.pointer (some ⟨b, 0, none⟩)) _ s ((((numR s.1).2 : Nat) : Int) == 0) 6 _ hr0) ?_)
      rintro _ w10 ⟨rfl, hr0, x11⟩
      have z12 := Bel.size x11
      replace hX := Bel.out hX x11 (fun g h1 h2 => by first | exact h2 | omega)
      refine Rg_run rfl (o_not rfl) ?_
      refine Rg_run rfl (o_moveh (v := .bool _) rfl) ?_
      refine Rg_off 5 27 rfl rfl (congrArg Value.bool (show (!(!((((numR s.1).2 : Nat) : Int) == 0))) = true by rw [hn0]; rfl)) rfl rfl ?_
      refine Rg_off 5 27 rfl rfl (congrArg Value.bool (show (!(!((((numR s.1).2 : Nat) : Int) == 0))) = true by rw [hn0]; rfl)) rfl rfl ?_
      refine Rg_off 5 27 rfl rfl (congrArg Value.bool (show (!(!((((numR s.1).2 : Nat) : Int) == 0))) = true by rw [hn0]; rfl)) rfl rfl ?_
      refine Rg_off 5 27 rfl rfl (congrArg Value.bool (show (!(!((((numR s.1).2 : Nat) : Int) == 0))) = true by rw [hn0]; rfl)) rfl rfl ?_
      refine Rg_off 5 27 rfl rfl (congrArg Value.bool (show (!(!((((numR s.1).2 : Nat) : Int) == 0))) = true by rw [hn0]; rfl)) rfl rfl ?_
      refine Rg_off 5 27 rfl rfl (congrArg Value.bool (show (!(!((((numR s.1).2 : Nat) : Int) == 0))) = true by rw [hn0]; rfl)) rfl rfl ?_
      refine Rg_off 5 27 rfl rfl (congrArg Value.bool (show (!(!((((numR s.1).2 : Nat) : Int) == 0))) = true by rw [hn0]; rfl)) rfl rfl ?_
      refine Rg_run rfl (o_pickT (v := .bool _) (congrArg Value.bool (show (!(!((((numR s.1).2 : Nat) : Int) == 0))) = true by rw [hn0]; rfl)) rfl) ?_
      refine Rg_run rfl (o_moveh (v := .bool _) rfl) ?_
      refine Rg_off 14 36 rfl rfl rfl rfl rfl ?_
      refine Rg_off 14 36 rfl rfl rfl rfl rfl ?_
      refine Rg_off 14 36 rfl rfl rfl rfl rfl ?_
      refine Rg_off 14 36 rfl rfl rfl rfl rfl ?_
      refine Rg_off 14 36 rfl rfl rfl rfl rfl ?_
      refine Rg_off 14 36 rfl rfl rfl rfl rfl ?_
      refine Rg_off 14 36 rfl rfl rfl rfl rfl ?_
      refine Rg_off 14 36 rfl rfl rfl rfl rfl ?_
      refine Rg_off 14 36 rfl rfl rfl rfl rfl ?_
      refine Rg_off 14 36 rfl rfl rfl rfl rfl ?_
      refine Rg_off 14 36 rfl rfl rfl rfl rfl ?_
      refine Rg_off 14 36 rfl rfl rfl rfl rfl ?_
      refine Rg_off 14 36 rfl rfl rfl rfl rfl ?_
      refine Rg_run rfl (o_pickT (v := .bool _) rfl rfl) ?_
      refine Rg_nil ?_
      refine W_cond_true rfl ?_
      refine W_seq (W_region ?_)
      refine Rg_run rfl o_assignc ?_
      refine Rg_nil (W_ret ?_)
      refine ⟨_, res_tmp rfl rfl, ?_⟩
      rw [refS_yes (show ((((numR s.1).2 : Nat) : Int) == 0) = true by rw [hn0]; rfl) hok] at hr0
      have e9 : bytesS s most = ((s.1, 6), []) := by rw [bytesS, if_pos hok, if_pos hn0]
      rw [e9]; exact ⟨Own.nil _ _, hr0, hX⟩
    refine Rg_enter rfl (o_call3 Tryz.call97 rfl rfl rfl) (Ok.mono (rref_ok (.pointer (some ⟨b, 0, none⟩)) _ s ((((numR s.1).2 : Nat) : Int) == 0) 6 _ hr0) ?_)
    rintro _ w13 ⟨rfl, hr0, x14⟩
    have z15 := Bel.size x14
    replace hX := Bel.out hX x14 (fun g h1 h2 => by first | exact h2 | omega)
    refine Rg_run rfl (o_not rfl) ?_
    refine Rg_run rfl (o_moveh (v := .bool _) rfl) ?_
    rw [refS_no (show ((((numR s.1).2 : Nat) : Int) == 0) = false from beq_eq_false_iff_ne.2 (by omega))] at hr0
    refine Rg_on 5 27 rfl (congrArg Value.bool (show (!(!((((numR s.1).2 : Nat) : Int) == 0))) = false by rw [Bool.not_not]; exact beq_eq_false_iff_ne.2 (by omega))) ?_
    refine Rg_run rfl (o_moveh (v := .pointer (some ⟨b, 0, none⟩)) rfl) ?_
    refine Rg_on 5 27 rfl (congrArg Value.bool (show (!(!((((numR s.1).2 : Nat) : Int) == 0))) = false by rw [Bool.not_not]; exact beq_eq_false_iff_ne.2 (by omega))) ?_
    refine Rg_run rfl (o_moveh (v := .int _ _) rfl) ?_
    refine Rg_on 5 27 rfl (congrArg Value.bool (show (!(!((((numR s.1).2 : Nat) : Int) == 0))) = false by rw [Bool.not_not]; exact beq_eq_false_iff_ne.2 (by omega))) ?_
    refine Rg_run rfl (o_moveh (v := .int _ _) rfl) ?_
    refine Rg_on 5 27 rfl (congrArg Value.bool (show (!(!((((numR s.1).2 : Nat) : Int) == 0))) = false by rw [Bool.not_not]; exact beq_eq_false_iff_ne.2 (by omega))) ?_
    refine Rg_run rfl (o_convV (n := most) Tryz.underlying3 Tryz.underlying50 rfl (by omega)) ?_
    refine Rg_on 5 27 rfl (congrArg Value.bool (show (!(!((((numR s.1).2 : Nat) : Int) == 0))) = false by rw [Bool.not_not]; exact beq_eq_false_iff_ne.2 (by omega))) ?_
    refine Rg_run rfl (o_gtr rfl rfl) ?_
    refine (Decidable.em ((decide ((((BitVec.ofNat 64 most).toNat : Nat) : Int) < (((numR s.1).1.toNat : Nat) : Int))) = true)).elim (fun hvm => ?_) (fun hvm => ?_)
    · skip
      refine Rg_on 5 27 rfl (congrArg Value.bool (show (!(!((((numR s.1).2 : Nat) : Int) == 0))) = false by rw [Bool.not_not]; exact beq_eq_false_iff_ne.2 (by omega))) ?_
      refine Rg_enter rfl (o_call3 Tryz.call97 rfl rfl rfl) (Ok.mono (rref_ok (.pointer (some ⟨b, 0, none⟩)) _ s (decide ((((BitVec.ofNat 64 most).toNat : Nat) : Int) < (((numR s.1).1.toNat : Nat) : Int))) 3 _ hr0) ?_)
      rintro _ w16 ⟨rfl, hr0, x17⟩
      have z18 := Bel.size x17
      replace hX := Bel.out hX x17 (fun g h1 h2 => by first | exact h2 | omega)
      refine Rg_on 5 27 rfl (congrArg Value.bool (show (!(!((((numR s.1).2 : Nat) : Int) == 0))) = false by rw [Bool.not_not]; exact beq_eq_false_iff_ne.2 (by omega))) ?_
      refine Rg_run rfl (o_not rfl) ?_
      refine Rg_run rfl (o_pickF (v := .bool _) (congrArg Value.bool (show (!(!((((numR s.1).2 : Nat) : Int) == 0))) = false by rw [Bool.not_not]; exact beq_eq_false_iff_ne.2 (by omega))) rfl) ?_
      refine Rg_run rfl (o_moveh (v := .bool _) rfl) ?_
      refine Rg_off 14 36 rfl rfl (congrArg Value.bool (show (!(!(decide ((((BitVec.ofNat 64 most).toNat : Nat) : Int) < (((numR s.1).1.toNat : Nat) : Int))))) = true by rw [hvm]; rfl)) rfl rfl ?_
      refine Rg_off 14 36 rfl rfl (congrArg Value.bool (show (!(!(decide ((((BitVec.ofNat 64 most).toNat : Nat) : Int) < (((numR s.1).1.toNat : Nat) : Int))))) = true by rw [hvm]; rfl)) rfl rfl ?_
      refine Rg_off 14 36 rfl rfl (congrArg Value.bool (show (!(!(decide ((((BitVec.ofNat 64 most).toNat : Nat) : Int) < (((numR s.1).1.toNat : Nat) : Int))))) = true by rw [hvm]; rfl)) rfl rfl ?_
      refine Rg_off 14 36 rfl rfl (congrArg Value.bool (show (!(!(decide ((((BitVec.ofNat 64 most).toNat : Nat) : Int) < (((numR s.1).1.toNat : Nat) : Int))))) = true by rw [hvm]; rfl)) rfl rfl ?_
      refine Rg_off 14 36 rfl rfl (congrArg Value.bool (show (!(!(decide ((((BitVec.ofNat 64 most).toNat : Nat) : Int) < (((numR s.1).1.toNat : Nat) : Int))))) = true by rw [hvm]; rfl)) rfl rfl ?_
      refine Rg_off 14 36 rfl rfl (congrArg Value.bool (show (!(!(decide ((((BitVec.ofNat 64 most).toNat : Nat) : Int) < (((numR s.1).1.toNat : Nat) : Int))))) = true by rw [hvm]; rfl)) rfl rfl ?_
      refine Rg_off 14 36 rfl rfl (congrArg Value.bool (show (!(!(decide ((((BitVec.ofNat 64 most).toNat : Nat) : Int) < (((numR s.1).1.toNat : Nat) : Int))))) = true by rw [hvm]; rfl)) rfl rfl ?_
      refine Rg_off 14 36 rfl rfl (congrArg Value.bool (show (!(!(decide ((((BitVec.ofNat 64 most).toNat : Nat) : Int) < (((numR s.1).1.toNat : Nat) : Int))))) = true by rw [hvm]; rfl)) rfl rfl ?_
      refine Rg_off 14 36 rfl rfl (congrArg Value.bool (show (!(!(decide ((((BitVec.ofNat 64 most).toNat : Nat) : Int) < (((numR s.1).1.toNat : Nat) : Int))))) = true by rw [hvm]; rfl)) rfl rfl ?_
      refine Rg_off 14 36 rfl rfl (congrArg Value.bool (show (!(!(decide ((((BitVec.ofNat 64 most).toNat : Nat) : Int) < (((numR s.1).1.toNat : Nat) : Int))))) = true by rw [hvm]; rfl)) rfl rfl ?_
      refine Rg_off 14 36 rfl rfl (congrArg Value.bool (show (!(!(decide ((((BitVec.ofNat 64 most).toNat : Nat) : Int) < (((numR s.1).1.toNat : Nat) : Int))))) = true by rw [hvm]; rfl)) rfl rfl ?_
      refine Rg_off 14 36 rfl rfl (congrArg Value.bool (show (!(!(decide ((((BitVec.ofNat 64 most).toNat : Nat) : Int) < (((numR s.1).1.toNat : Nat) : Int))))) = true by rw [hvm]; rfl)) rfl rfl ?_
      refine Rg_off 14 36 rfl rfl (congrArg Value.bool (show (!(!(decide ((((BitVec.ofNat 64 most).toNat : Nat) : Int) < (((numR s.1).1.toNat : Nat) : Int))))) = true by rw [hvm]; rfl)) rfl rfl ?_
      refine Rg_run rfl (o_pickT (v := .bool _) (congrArg Value.bool (show (!(!(decide ((((BitVec.ofNat 64 most).toNat : Nat) : Int) < (((numR s.1).1.toNat : Nat) : Int))))) = true by rw [hvm]; rfl)) rfl) ?_
      refine Rg_nil ?_
      refine W_cond_true rfl ?_
      refine W_seq (W_region ?_)
      refine Rg_run rfl o_assignc ?_
      refine Rg_nil (W_ret ?_)
      refine ⟨_, res_tmp rfl rfl, ?_⟩
      rw [refS_yes (show (decide ((((BitVec.ofNat 64 most).toNat : Nat) : Int) < (((numR s.1).1.toNat : Nat) : Int))) = true from hvm) hok] at hr0
      have e9 : bytesS s most = ((s.1, 3), []) := by rw [bytesS, if_pos hok, if_neg hn0, if_pos (by have := of_decide_eq_true hvm; omega)]
      rw [e9]; exact ⟨Own.nil _ _, hr0, hX⟩
    refine Rg_on 5 27 rfl (congrArg Value.bool (show (!(!((((numR s.1).2 : Nat) : Int) == 0))) = false by rw [Bool.not_not]; exact beq_eq_false_iff_ne.2 (by omega))) ?_
    refine Rg_enter rfl (o_call3 Tryz.call97 rfl rfl rfl) (Ok.mono (rref_ok (.pointer (some ⟨b, 0, none⟩)) _ s (decide ((((BitVec.ofNat 64 most).toNat : Nat) : Int) < (((numR s.1).1.toNat : Nat) : Int))) 3 _ hr0) ?_)
    rintro _ w19 ⟨rfl, hr0, x20⟩
    have z21 := Bel.size x20
    replace hX := Bel.out hX x20 (fun g h1 h2 => by first | exact h2 | omega)
    refine Rg_on 5 27 rfl (congrArg Value.bool (show (!(!((((numR s.1).2 : Nat) : Int) == 0))) = false by rw [Bool.not_not]; exact beq_eq_false_iff_ne.2 (by omega))) ?_
    refine Rg_run rfl (o_not rfl) ?_
    refine Rg_run rfl (o_pickF (v := .bool _) (congrArg Value.bool (show (!(!((((numR s.1).2 : Nat) : Int) == 0))) = false by rw [Bool.not_not]; exact beq_eq_false_iff_ne.2 (by omega))) rfl) ?_
    refine Rg_run rfl (o_moveh (v := .bool _) rfl) ?_
    rw [refS_no (show (decide ((((BitVec.ofNat 64 most).toNat : Nat) : Int) < (((numR s.1).1.toNat : Nat) : Int))) = false by simpa using hvm)] at hr0
    obtain ⟨ax, cx, hb, hx⟩ := hr0.open
    refine Rg_on 14 36 rfl (congrArg Value.bool (show (!(!(decide ((((BitVec.ofNat 64 most).toNat : Nat) : Int) < (((numR s.1).1.toNat : Nat) : Int))))) = false by rw [Bool.not_not]; simpa using hvm)) ?_
    refine Rg_run rfl (o_moveh (v := .pointer (some ⟨b, 0, none⟩)) rfl) ?_
    refine Rg_on 14 36 rfl (congrArg Value.bool (show (!(!(decide ((((BitVec.ofNat 64 most).toNat : Nat) : Int) < (((numR s.1).1.toNat : Nat) : Int))))) = false by rw [Bool.not_not]; simpa using hvm)) ?_
    refine Rg_run rfl (o_moveh (v := .int _ _) rfl) ?_
    refine Rg_on 14 36 rfl (congrArg Value.bool (show (!(!(decide ((((BitVec.ofNat 64 most).toNat : Nat) : Int) < (((numR s.1).1.toNat : Nat) : Int))))) = false by rw [Bool.not_not]; simpa using hvm)) ?_
    refine Rg_run rfl (o_moveh (v := .pointer (some ⟨b, 0, none⟩)) rfl) ?_
    refine Rg_on 14 36 rfl (congrArg Value.bool (show (!(!(decide ((((BitVec.ofNat 64 most).toNat : Nat) : Int) < (((numR s.1).1.toNat : Nat) : Int))))) = false by rw [Bool.not_not]; simpa using hvm)) ?_
    refine Rg_run rfl (o_nilc rfl) ?_
    refine Rg_on 14 36 rfl (congrArg Value.bool (show (!(!(decide ((((BitVec.ofNat 64 most).toNat : Nat) : Int) < (((numR s.1).1.toNat : Nat) : Int))))) = false by rw [Bool.not_not]; simpa using hvm)) ?_
    refine Rg_run rfl (o_fa Tryz.underlying164 rfl Tryz.sizeOf30 rfl) ?_
    refine Rg_on 14 36 rfl (congrArg Value.bool (show (!(!(decide ((((BitVec.ofNat 64 most).toNat : Nat) : Int) < (((numR s.1).1.toNat : Nat) : Int))))) = false by rw [Bool.not_not]; simpa using hvm)) ?_
    refine Rg_run rfl (o_load1 Tryz.isAgg30 rfl (hb.at.get 0 rfl)) ?_
    refine Rg_on 14 36 rfl (congrArg Value.bool (show (!(!(decide ((((BitVec.ofNat 64 most).toNat : Nat) : Int) < (((numR s.1).1.toNat : Nat) : Int))))) = false by rw [Bool.not_not]; simpa using hvm)) ?_
    refine Rg_run rfl (o_llen Tryz.underlying30 rfl) ?_
    refine Rg_on 14 36 rfl (congrArg Value.bool (show (!(!(decide ((((BitVec.ofNat 64 most).toNat : Nat) : Int) < (((numR s.1).1.toNat : Nat) : Int))))) = false by rw [Bool.not_not]; simpa using hvm)) ?_
    refine Rg_run rfl (o_moveh (v := .int _ _) rfl) ?_
    refine Rg_on 14 36 rfl (congrArg Value.bool (show (!(!(decide ((((BitVec.ofNat 64 most).toNat : Nat) : Int) < (((numR s.1).1.toNat : Nat) : Int))))) = false by rw [Bool.not_not]; simpa using hvm)) ?_
    refine Rg_run rfl (o_subN (p := s.1.length) (b := (numR s.1).2) rfl rfl hnl (by omega)) ?_
    refine Rg_on 14 36 rfl (congrArg Value.bool (show (!(!(decide ((((BitVec.ofNat 64 most).toNat : Nat) : Int) < (((numR s.1).1.toNat : Nat) : Int))))) = false by rw [Bool.not_not]; simpa using hvm)) ?_
    refine Rg_run rfl (o_convV (n := s.1.length - (numR s.1).2) Tryz.underlying3 Tryz.underlying50 rfl (by omega)) ?_
    refine Rg_on 14 36 rfl (congrArg Value.bool (show (!(!(decide ((((BitVec.ofNat 64 most).toNat : Nat) : Int) < (((numR s.1).1.toNat : Nat) : Int))))) = false by rw [Bool.not_not]; simpa using hvm)) ?_
    refine Rg_run rfl (o_gtr rfl rfl) ?_
    refine (Decidable.em ((decide ((((BitVec.ofNat 64 (s.1.length - (numR s.1).2)).toNat : Nat) : Int) < (((numR s.1).1.toNat : Nat) : Int))) = true)).elim (fun hlen => ?_) (fun hlen => ?_)
    · skip
      refine Rg_on 14 36 rfl (congrArg Value.bool (show (!(!(decide ((((BitVec.ofNat 64 most).toNat : Nat) : Int) < (((numR s.1).1.toNat : Nat) : Int))))) = false by rw [Bool.not_not]; simpa using hvm)) ?_
      refine Rg_enter rfl (o_call3 Tryz.call97 rfl rfl rfl) (Ok.mono (rref_ok (.pointer (some ⟨b, 0, none⟩)) _ s (decide ((((BitVec.ofNat 64 (s.1.length - (numR s.1).2)).toNat : Nat) : Int) < (((numR s.1).1.toNat : Nat) : Int))) 6 _ hr0) ?_)
      rintro _ w22 ⟨rfl, hr0, x23⟩
      have z24 := Bel.size x23
      replace hX := Bel.out hX x23 (fun g h1 h2 => by first | exact h2 | omega)
      refine Rg_on 14 36 rfl (congrArg Value.bool (show (!(!(decide ((((BitVec.ofNat 64 most).toNat : Nat) : Int) < (((numR s.1).1.toNat : Nat) : Int))))) = false by rw [Bool.not_not]; simpa using hvm)) ?_
      refine Rg_run rfl (o_not rfl) ?_
      refine Rg_run rfl (o_pickF (v := .bool _) (congrArg Value.bool (show (!(!(decide ((((BitVec.ofNat 64 most).toNat : Nat) : Int) < (((numR s.1).1.toNat : Nat) : Int))))) = false by rw [Bool.not_not]; simpa using hvm)) rfl) ?_
      refine Rg_nil ?_
      refine W_cond_true (congrArg Value.bool (show (!(!(decide ((((BitVec.ofNat 64 (s.1.length - (numR s.1).2)).toNat : Nat) : Int) < (((numR s.1).1.toNat : Nat) : Int))))) = true by rw [hlen]; rfl)) ?_
      refine W_seq (W_region ?_)
      refine Rg_run rfl o_assignc ?_
      refine Rg_nil (W_ret ?_)
      refine ⟨_, res_tmp rfl rfl, ?_⟩
      rw [refS_yes (show (decide ((((BitVec.ofNat 64 (s.1.length - (numR s.1).2)).toNat : Nat) : Int) < (((numR s.1).1.toNat : Nat) : Int))) = true from hlen) hok] at hr0
      have e9 : bytesS s most = ((s.1, 6), []) := by rw [bytesS, if_pos hok, if_neg hn0, if_neg (by intro h; exact hvm (decide_eq_true (by omega))), if_pos (by have := of_decide_eq_true hlen; omega)]
      rw [e9]; exact ⟨Own.nil _ _, hr0, hX⟩
    refine Rg_on 14 36 rfl (congrArg Value.bool (show (!(!(decide ((((BitVec.ofNat 64 most).toNat : Nat) : Int) < (((numR s.1).1.toNat : Nat) : Int))))) = false by rw [Bool.not_not]; simpa using hvm)) ?_
    refine Rg_enter rfl (o_call3 Tryz.call97 rfl rfl rfl) (Ok.mono (rref_ok (.pointer (some ⟨b, 0, none⟩)) _ s (decide ((((BitVec.ofNat 64 (s.1.length - (numR s.1).2)).toNat : Nat) : Int) < (((numR s.1).1.toNat : Nat) : Int))) 6 _ hr0) ?_)
    rintro _ w25 ⟨rfl, hr0, x26⟩
    have z27 := Bel.size x26
    replace hX := Bel.out hX x26 (fun g h1 h2 => by first | exact h2 | omega)
    refine Rg_on 14 36 rfl (congrArg Value.bool (show (!(!(decide ((((BitVec.ofNat 64 most).toNat : Nat) : Int) < (((numR s.1).1.toNat : Nat) : Int))))) = false by rw [Bool.not_not]; simpa using hvm)) ?_
    refine Rg_run rfl (o_not rfl) ?_
    refine Rg_run rfl (o_pickF (v := .bool _) (congrArg Value.bool (show (!(!(decide ((((BitVec.ofNat 64 most).toNat : Nat) : Int) < (((numR s.1).1.toNat : Nat) : Int))))) = false by rw [Bool.not_not]; simpa using hvm)) rfl) ?_
    refine Rg_nil ?_
    refine W_cond_false (congrArg Value.bool (show (!(!(decide ((((BitVec.ofNat 64 (s.1.length - (numR s.1).2)).toNat : Nat) : Int) < (((numR s.1).1.toNat : Nat) : Int))))) = false by rw [Bool.not_not]; simpa using hlen)) ?_
    refine W_skip (W_seq (W_region ?_))
    rw [refS_no (show (decide ((((BitVec.ofNat 64 (s.1.length - (numR s.1).2)).toNat : Nat) : Int) < (((numR s.1).1.toNat : Nat) : Int))) = false by simpa using hlen)] at hr0
    refine Rg_run rfl (o_moveh (v := .pointer (some ⟨b, 0, none⟩)) rfl) ?_
    refine Rg_run rfl (o_moveh (v := .int _ _) rfl) ?_
    refine Rg_enter rfl (o_call2 Tryz.call99 rfl rfl) (Ok.mono (rtake_ok (.pointer (some ⟨b, 0, none⟩)) _ s.1 s.2 (numR s.1).2 _ hr0 (numR_le _) hl9) ?_)
    rintro _ w28 ⟨_, hr0, x29⟩
    have z30 := Bel.size x29
    replace hX := Bel.out hX x29 (fun g h1 h2 => by first | exact h2 | omega)
    refine Rg_nil (W_seq (W_region ?_))
    refine Rg_run rfl (o_moveh (v := .pointer (some ⟨b, 0, none⟩)) rfl) ?_
    refine Rg_run rfl (o_moveh (v := .int _ _) rfl) ?_
    refine Rg_run rfl (o_convU (n := (numR s.1).1.toNat) Tryz.underlying50 Tryz.underlying3 rfl rfl (by have := hvm; simp only [decide_eq_true_eq] at this; omega)) ?_
    refine Rg_enter rfl (o_call2 Tryz.call99 rfl rfl) (Ok.mono (rtake_ok (.pointer (some ⟨b, 0, none⟩)) _ (s.1.drop (numR s.1).2) s.2 (numR s.1).1.toNat _ hr0 (by rw [List.length_drop]; have h8 := hlen; simp only [decide_eq_true_eq] at h8; omega) (by rw [List.length_drop]; omega)) ?_)
    rintro v57 w31 ⟨hown57, hr0, x32⟩
    have z33 := Bel.size x32
    replace hX := Bel.out hX x32 (fun g h1 h2 => by first | exact h2 | omega)
    refine Rg_run rfl (o_assignh (v := v57) rfl) ?_
    refine Rg_nil (W_ret ?_)
    refine ⟨_, res_tmp rfl rfl, ?_⟩
    have e9 : bytesS s most = ((s.1.drop ((numR s.1).2 + (numR s.1).1.toNat), s.2), (s.1.drop (numR s.1).2).take (numR s.1).1.toNat) := by rw [bytesS, if_pos hok, if_neg hn0, if_neg (by intro h; exact hvm (decide_eq_true (by omega))), if_neg (by intro h; exact hlen (decide_eq_true (by omega)))]
    rw [e9]; rw [List.drop_drop] at hr0; exact ⟨hown57.mono (fun g h1 h2 => by omega), hr0, hX⟩
  refine Rg_run rfl (o_moveh (v := .bool _) rfl) ?_
  refine Rg_off 3 10 rfl rfl (congrArg Value.bool (show (!(s.2 == 0)) = true by simp only [Bool.not_eq_true] at hok; rw [hok]; rfl)) rfl rfl ?_
  refine Rg_off 3 10 rfl rfl (congrArg Value.bool (show (!(s.2 == 0)) = true by simp only [Bool.not_eq_true] at hok; rw [hok]; rfl)) rfl rfl ?_
  refine Rg_off 3 10 rfl rfl (congrArg Value.bool (show (!(s.2 == 0)) = true by simp only [Bool.not_eq_true] at hok; rw [hok]; rfl)) rfl rfl ?_
  refine Rg_off 3 10 rfl rfl (congrArg Value.bool (show (!(s.2 == 0)) = true by simp only [Bool.not_eq_true] at hok; rw [hok]; rfl)) rfl rfl ?_
  refine Rg_off 3 10 rfl rfl (congrArg Value.bool (show (!(s.2 == 0)) = true by simp only [Bool.not_eq_true] at hok; rw [hok]; rfl)) rfl rfl ?_
  refine Rg_run rfl (o_pickT (v := .bool _) (congrArg Value.bool (show (!(s.2 == 0)) = true by simp only [Bool.not_eq_true] at hok; rw [hok]; rfl)) rfl) ?_
  refine Rg_nil ?_
  refine W_cond_true rfl ?_
  refine W_seq (W_region ?_)
  refine Rg_run rfl o_assignc ?_
  refine Rg_nil (W_ret ?_)
  refine ⟨_, res_tmp rfl rfl, ?_⟩
  have e9 : bytesS s most = (s, []) := by rw [bytesS, if_neg hok]
  rw [e9]; exact ⟨Own.nil _ _, hr0, hX⟩

theorem rput_ok (x : W64) (w : World) : Ok Tryz.prog 59 #[u64 x] w fun v w' => Own encB 1 5 (Fsh w w') w' v (putU x) ∧ Ext False w w' := by
  refine Ok_of_W 20 Tryz.func59 rfl rfl rfl ?_
  have hX : Ext False w w := Bel.refl _ _
  refine W_seq (W_region ?_)
  refine Rg_run rfl o_assignc ?_
  refine Rg_nil (W_seq (W_region ?_))
  refine Rg_run rfl (o_moveh (v := .int _ _) rfl) ?_
  refine Rg_run rfl (o_uremU (b := BitVec.ofNat 64 128) rfl rfl (by decide)) ?_
  refine Rg_run rfl (o_convUB Tryz.underlying50 Tryz.underlying5 rfl) ?_
  refine Rg_bs (vs := [.int _ _]) ([UInt8.ofNat (x % 128#64).toNat]) rfl encB_ok el_b8 rfl rfl ⟨rfl, trivial⟩ rfl rfl rfl rfl ?_
  intro a7 w1 x2 hown7
  have z3 := Bel.size x2
  replace hX := Bel.ex hX x2
  replace hown7 := hown7.mono (D' := fun g => w.heap.size ≤ g) (fun g h1 h2 => by omega)
  refine Rg_run rfl (o_assignh (v := .slice _ _ _) rfl) ?_
  refine Rg_nil (W_seq (W_block ?_))
  refine W_for (α := W64 × List UInt8 × Value) [(0, 0), (3, 3), (8, 18)] (fun q => [(0, u64 q.1), (3, q.2.2)]) (fun q w' => ((gT (q.1 >>> 7)).reverse ++ q.2.1 = putU x) ∧ Bel False (fun g => w.heap.size ≤ g) w1 w' ∧ (Own encB 1 5 (fun g => w.heap.size ≤ g) w' q.2.2 q.2.1)) (fun q => q.1.toNat) (x, [UInt8.ofNat (x % 128#64).toNat], .slice a7 1 1) ⟨rfl, rfl, trivial⟩ ⟨(show (gT (x >>> 7)).reverse ++ [UInt8.ofNat (x % 128#64).toNat] = putU x by rw [b7_rem, putU_eq]), Bel.refl _ _, hown7⟩ ?_
  rintro ⟨y, l, u⟩ fb6 w5 ⟨hI, hXL4, hown⟩
  dsimp only at *
  have z7 := Bel.size hXL4
  replace hX := Bel.out hX hXL4 (fun g h1 h2 => by first | exact h2 | omega)
  refine W_seq (W_seq (W_region ?_))
  refine Rg_run rfl (o_moveh (v := .int _ _) rfl) ?_
  refine Rg_run rfl (o_geq rfl rfl) ?_
  refine Rg_nil ?_
  refine W_cond rfl (fun hc1 => ?_) (fun hc1 => ?_)
  · skip
    replace hc1 := of_decide_eq_true hc1
    have hy0 : y >>> 7 ≠ 0 := fun h => by
      have h1 : (y >>> 7).toNat = y.toNat / 128 := by rw [BitVec.toNat_ushiftRight, Nat.shiftRight_eq_div_pow]
      rw [h] at h1; simp at h1; omega
    refine W_skip (W_block (W_seq (W_region ?_)))
    refine Rg_run rfl (o_moveh (v := .int _ _) rfl) ?_
    refine Rg_run rfl (o_quoU (a := y) (b := 128#64) rfl rfl (by decide)) ?_
    refine Rg_run rfl (o_assignh (v := .int _ _) rfl) ?_
    refine Rg_nil (W_region ?_)
    refine Rg_run rfl (o_moveh (v := .int _ _) rfl) ?_
    refine Rg_run rfl (o_uremU (b := BitVec.ofNat 64 128) rfl rfl (by decide)) ?_
    refine Rg_run rfl (o_convUB Tryz.underlying50 Tryz.underlying5 rfl) ?_
    refine Rg_run rfl (o_addB (a := UInt8.ofNat ((y / 128#64) % 128#64).toNat) (b := 128) rfl rfl) ?_
    refine Rg_bs (vs := [.int _ _]) ([UInt8.ofNat ((y / 128#64) % 128#64).toNat + 128]) rfl encB_ok el_b8 rfl rfl ⟨rfl, trivial⟩ rfl rfl rfl rfl ?_
    intro a16 w8 x9 hown16
    have z10 := Bel.size x9
    replace hX := Bel.ex hX x9
    replace hXL4 := Bel.ex hXL4 x9
    replace hown := hown.ext x9
    replace hown16 := hown16.mono (D' := fun g => w.heap.size ≤ g) (fun g h1 h2 => by omega)
    obtain ⟨a3, c3, hv3, -⟩ := hown.sl encB_ok
    subst hv3
    refine Rg_run rfl (o_moveh (v := .slice a3 l.length c3) rfl) ?_
    refine Rg_app rfl encB_ok el_b8 rfl rfl hown16 (hown.slA encB_ok) rfl (by have := congrArg List.length hI; have := putU_len x; simp at *; omega) (fun g h => by omega) ?_
    intro v18 w11 x12 hown16
    have z13 := Bel.size x12
    replace hX := Bel.out hX x12 (fun g h1 h2 => by first | exact h2 | omega)
    replace hXL4 := Bel.out hXL4 x12 (fun g h1 h2 => by first | exact h2 | omega)
    refine Rg_run rfl (o_assignh (v := v18) rfl) ?_
    refine Rg_nil ?_
    refine ⟨(y / 128#64, [UInt8.ofNat ((y / 128#64) % 128#64).toNat + 128] ++ l, v18), ⟨?_, ?_, trivial⟩, ?_, ⟨?_, hXL4, ?_⟩, ?_⟩
    · first | rfl | (go_num) | (exact congrArg _ (by omega))
    · first | rfl | (go_num) | (exact congrArg _ (by omega))
    · repeat (first | exact off_refl _ _ | exact off_mix | refine off_put rfl ?_ | refine off_putN ?_ | refine off_setL rfl ?_ | refine off_mix' rfl ?_)
    · show (gT ((y / 128#64) >>> 7)).reverse ++ ([UInt8.ofNat ((y / 128#64) % 128#64).toNat + 128] ++ l) = putU x
      rw [b7_add, quo128, ← hI, gT_some hy0, List.reverse_cons, List.append_assoc]
    · exact hown16
    · show (y / 128#64).toNat < y.toNat; rw [quo128]; exact shr7_lt (fun h => hy0 (by rw [h]; rfl))
  replace hc1 := of_decide_eq_false hc1
  have hy0 : y >>> 7 = 0 := by
    apply BitVec.eq_of_toNat_eq
    rw [BitVec.toNat_ushiftRight, Nat.shiftRight_eq_div_pow]; simp; omega
  refine W_exit (exAt_hit (W_seq (W_region ?_)))
  refine Rg_run rfl (o_moveh (v := u) rfl) ?_
  refine Rg_run rfl (o_assignh (v := u) rfl) ?_
  refine Rg_nil (W_ret ?_)
  refine ⟨_, res_tmp rfl rfl, ?_⟩
  rw [hy0, gT_zero, List.reverse_nil, List.nil_append] at hI
  rw [← hI]
  exact ⟨hown.mono (fun g h1 h2 => by omega), hX⟩

theorem rputb_ok (v0 : Value) (G : Nat → Prop) (y : List UInt8) (w : World) (hy : Rd encB 1 G w v0 y) (hn : y.length ≤ 100000000) : Ok Tryz.prog 104 #[v0] w fun v w' => Own encB 1 5 (Fsh w w') w' v (putB y) ∧ Ext False w w' := by
  obtain ⟨ay, cy, rfl, hy⟩ := hy
  replace hy := hy.mono (F' := fun g => g < w.heap.size) (fun g h1 h2 => h1)
  have hpl := putU_len (BitVec.ofNat 64 y.length)
  refine Ok_of_W 9 Tryz.func104 rfl rfl rfl ?_
  have hX : Ext False w w := Bel.refl _ _
  refine W_seq (W_region ?_)
  refine Rg_run rfl o_assignc ?_
  refine Rg_nil (W_seq (W_region ?_))
  refine Rg_run rfl (o_moveh (v := .slice _ _ _) rfl) ?_
  refine Rg_run rfl (o_llen Tryz.underlying30 rfl) ?_
  refine Rg_run rfl (o_convV (n := y.length) Tryz.underlying3 Tryz.underlying50 rfl (by omega)) ?_
  refine Rg_enter rfl (o_call1 Tryz.call59 rfl) (Ok.mono (rput_ok (BitVec.ofNat 64 y.length) _) ?_)
  rintro v6 w1 ⟨hown6, x2⟩
  have z3 := Bel.size x2
  replace hX := Bel.ex hX x2
  replace hy := hy.ext x2
  replace hown6 := hown6.mono (D' := fun g => w.heap.size ≤ g) (fun g h1 h2 => by omega)
  refine Rg_run rfl (o_moveh (v := .slice _ _ _) rfl) ?_
  refine Rg_app rfl encB_ok el_b8 rfl rfl hown6 hy rfl (by omega) (fun g h => by omega) ?_
  intro v8 w4 x5 hown6
  have z6 := Bel.size x5
  replace hX := Bel.out hX x5 (fun g h1 h2 => by first | exact h2 | omega)
  refine Rg_run rfl (o_assignh (v := v8) rfl) ?_
  refine Rg_nil (W_ret ?_)
  refine ⟨_, res_tmp rfl rfl, ?_⟩
  exact ⟨hown6.mono (fun g h1 h2 => by omega), hX⟩

end Go.Proofs.YtncmjgmlnnenhaaGreatDoor
