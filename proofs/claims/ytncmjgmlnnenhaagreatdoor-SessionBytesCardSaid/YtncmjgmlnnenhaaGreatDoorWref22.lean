/- Walks, printed by program: each theorem says what a function of the translation returns. -/
import Derived.Test.YtncmjgmlnnenhaaGreatDoorWses
namespace Go.Proofs.YtncmjgmlnnenhaaGreatDoor
open Go Go.Lx Go.RowKit
set_option maxRecDepth 100000
set_option linter.unusedVariables false
set_option linter.unusedSimpArgs false
set_option linter.unnecessarySimpa false
theorem el_rse : ElT Tryz.prog 27 52 3 24 (.agg #[.int .i64 0, .int .i64 0, .int .u64 0]) := ⟨Tryz.underlying27, ⟨Tryz.t52, by kernel_rfl, rfl, rfl, rfl⟩, rfl, by decide, by decide⟩
theorem r22find_ok (a : Option Addr) (c : Nat) (G : Nat → Prop) (m : List RS) (n : Int) (w : World) (hs : Sl encRs 3 G w a c m) : Ok Tryz.prog 142 #[.slice a m.length c, .int .i64 n] w fun v w' => v = .int .i64 (fnd m n) ∧ Ext False w w' := by
  have hlen := hs.len
  replace hs := hs.mono (F' := fun g => g < w.heap.size) (fun g h1 h2 => h1)
  refine Ok_of_W 20 Tryz.func142 rfl rfl rfl ?_
  have hX : Ext False w w := Bel.refl _ _
  refine W_seq (W_region ?_)
  refine Rg_run rfl o_assignc ?_
  refine Rg_nil (W_seq (W_seq (W_region ?_)))
  refine Rg_run rfl (o_moveh (v := .slice _ _ _) rfl) ?_
  refine Rg_run rfl (o_llen Tryz.underlying27 rfl) ?_
  refine Rg_run rfl o_movec ?_
  refine Rg_nil (W_block ?_)
  refine W_for (α := Nat) [(4, 6), (9, 19)] (fun k => [(9, .int .i64 (k : Int))]) (fun k w' => (k ≤ m.length ∧ (m.take k).any (fun s => s.n == n) = false) ∧ Ext False w w') (fun k => m.length - k) 0 ⟨rfl, trivial⟩ ⟨⟨by omega, by simp⟩, Bel.refl _ _⟩ ?_
  rintro k fb3 w2 ⟨⟨hk, hall⟩, hXL1⟩
  have z4 := Bel.size hXL1
  replace hX := Bel.ex hX hXL1
  replace hs := hs.ext hXL1
  refine W_seq (W_region ?_)
  refine Rg_run rfl (o_lss rfl rfl) ?_
  refine Rg_nil (W_seq ?_)
  refine W_cond rfl (fun hc1 => ?_) (fun hc1 => ?_)
  · skip
    replace hc1 := of_decide_eq_true hc1
    refine W_skip (W_seq (W_block (W_seq (W_region ?_))))
    refine Rg_run rfl (o_moveh (v := .int _ _) rfl) ?_
    refine Rg_run rfl (o_iaR Tryz.underlying27 Tryz.sizeOf52 hs rfl rfl (by first | omega | (unfold I64; omega) | (simp; done) | (simp; omega) | (simp at *; omega))) ?_
    refine Rg_run rfl (o_ldRS Tryz.isAgg52 Tryz.sizeOf52 hs rfl (getE rz (by omega))) ?_
    refine Rg_newB rfl (o_alloc Tryz.zeroValue52) ?_
    intro b6 w5 x6 hge6 hb6
    have hlt6 := hb6.lt
    change Box _ _ _ ([.int _ _, .int _ _, .int _ _]) at hb6
    have z7 := Bel.size x6
    replace hX := Bel.ex hX x6
    replace hXL1 := Bel.ex hXL1 x6
    replace hs := hs.ext x6
    refine Rg_run rfl (o_assignh (v := .int _ _) rfl) ?_
    refine Rg_storeW (v := .agg _) rfl Tryz.sizeOf52 rfl rfl hb6 rfl rfl rfl ?_
    intro w8 c9 hb6
    change Box _ _ _ (encRs _) at hb6
    have z10 := Bel.size c9
    replace hX := Bel.out hX c9 (fun g h1 h2 => by first | exact h2 | omega)
    replace hXL1 := Bel.out hXL1 c9 (fun g h1 h2 => by first | exact h2 | omega)
    replace hs := hs.keep c9 (fun g h1 h2 h3 => by omega)
    refine Rg_nil (W_seq (W_region ?_))
    refine Rg_run rfl (o_fa Tryz.underlying52 rfl Tryz.sizeOf3 rfl) ?_
    refine Rg_run rfl (o_load1 Tryz.isAgg3 rfl (hb6.at.get 0 rfl)) ?_
    refine Rg_run rfl (o_moveh (v := .int _ _) rfl) ?_
    refine Rg_run rfl (o_eql rfl rfl) ?_
    refine Rg_nil ?_
    refine W_cond rfl (fun hc2 => ?_) (fun hc2 => ?_)
    · skip
      refine W_seq (W_region ?_)
      refine Rg_run rfl (o_moveh (v := .int _ _) rfl) ?_
      refine Rg_run rfl (o_assignh (v := .int _ _) rfl) ?_
      refine Rg_nil (W_ret ?_)
      refine ⟨_, res_tmp rfl rfl, ?_⟩
      refine ⟨congrArg (Value.int .i64) ?_, hX⟩
      all_goals (exact (ixOf_at (by omega) hall (by simpa [List.getD, show k < m.length by omega] using hc2)).symm)
    refine W_skip (W_region ?_)
    refine Rg_run rfl (o_add rfl rfl (by first | omega | (unfold I64; omega) | (simp; done) | (simp; omega) | (simp at *; omega))) ?_
    refine Rg_run rfl (o_moveh (v := .int _ _) rfl) ?_
    refine Rg_nil ?_
    refine ⟨k + 1, ⟨?_, trivial⟩, ?_, ⟨?_, hXL1⟩, ?_⟩
    · first | rfl | (go_num) | (exact congrArg _ (by omega))
    · repeat (first | exact off_refl _ _ | exact off_mix | refine off_put rfl ?_ | refine off_putN ?_ | refine off_setL rfl ?_ | refine off_mix' rfl ?_)
    · exact ⟨by omega, anyT_succ (by omega) hall (by simpa [List.getD, show k < m.length by omega] using hc2)⟩
    · omega
  replace hc1 := of_decide_eq_false hc1
  refine W_exit (exAt_hit (W_seq (W_region ?_)))
  refine Rg_run rfl o_assignc ?_
  refine Rg_nil (W_ret ?_)
  refine ⟨_, res_tmp rfl rfl, ?_⟩
  refine ⟨congrArg (Value.int .i64) ?_, hX⟩
  all_goals (exact (ixOf_none (k := k) (by omega) hall).symm)

theorem r22open_ok (v0 : Value) (G : Nat → Prop) (m : List RS) (w : World) (hs : Rd encRs 3 G w v0 m) (hm : OkM m) (u : Int) : Ok Tryz.prog 83 #[v0, .int .i64 u] w fun v w' => (∃ p, v = .tuple #[p, .int .i64 (openR m u).2.1, .int .i64 (openR m u).2.2] ∧ Rd encRs 3 (Lt w'.heap.size) w' p (openR m u).1) ∧ Ext False w w' := by
  obtain ⟨a, c, rfl, hs⟩ := hs
  replace hs := hs.mono (F' := fun g => g < w.heap.size) (fun g h1 h2 => h1)
  have hlen := hm.len
  refine Ok_of_W 54 Tryz.func83 rfl rfl rfl ?_
  have hX : Ext False w w := Bel.refl _ _
  refine W_seq (W_region ?_)
  refine Rg_run rfl o_assignc ?_
  refine Rg_run rfl o_assignc ?_
  refine Rg_run rfl o_assignc ?_
  refine Rg_nil (W_seq (W_seq (W_region ?_)))
  refine Rg_run rfl (o_moveh (v := .int _ _) rfl) ?_
  refine Rg_run rfl (o_lss rfl rfl) ?_
  refine Rg_run rfl (o_moveh (v := .bool _) rfl) ?_
  refine Rg_may 2 13 rfl rfl rfl (fun hg => (o_moveh (v := .int _ _) rfl)) ?_
  refine Rg_may 2 13 rfl rfl rfl (fun hg => (o_gtr (gsel (u := undef) hg) rfl)) ?_
  refine Rg_run rfl (o_or (u := undef) rfl rfl) ?_
  refine Rg_nil ?_
  refine W_cond rfl (fun hc1 => ?_) (fun hc1 => ?_)
  · skip
    have hu : u < 1 ∨ 256 < u := by simpa using hc1
    refine W_seq (W_region ?_)
    refine Rg_run rfl (o_moveh (v := .slice _ _ _) rfl) ?_
    refine Rg_run rfl (o_assignh (v := .slice _ _ _) rfl) ?_
    refine Rg_run rfl o_assignc ?_
    refine Rg_run rfl o_assignc ?_
    refine Rg_nil (W_ret ?_)
    refine ⟨_, res_T (vs := [.slice _ _ _, .int _ _, .int _ _]) rfl ⟨rfl, rfl, rfl, trivial⟩ (by simp), ?_⟩
    have e : openR m u = (m, 0, 1) := by rw [openR, if_pos hu]
    rw [e]
    exact ⟨⟨_, rfl, hs.trd⟩, hX⟩
  have hu : ¬ (u < 1 ∨ 256 < u) := by simpa using hc1
  refine W_skip (W_seq (W_region ?_))
  refine Rg_run rfl o_assignc ?_
  refine Rg_nil (W_seq (W_block ?_))
  refine W_for (α := Nat) [(7, 7), (18, 23)] (fun j => [(7, .int .i64 ((j : Int) + 1))]) (fun j w' => (j ≤ gap m) ∧ Ext False w w') (fun j => gap m - j) 0 ⟨rfl, trivial⟩ ⟨Nat.zero_le _, Bel.refl _ _⟩ ?_
  rintro j fb3 w2 ⟨hj, hXL1⟩
  have z4 := Bel.size hXL1
  replace hX := Bel.ex hX hXL1
  replace hs := hs.ext hXL1
  refine W_seq (W_seq (W_region ?_))
  refine Rg_run rfl (o_moveh (v := .slice _ _ _) rfl) ?_
  refine Rg_run rfl (o_moveh (v := .int _ _) rfl) ?_
  refine Rg_enter rfl (o_call2 Tryz.call142 rfl rfl) (Ok.mono (r22find_ok _ _ _ _ _ _ hs) ?_)
  rintro _ w5 ⟨rfl, x6⟩
  have z7 := Bel.size x6
  replace hX := Bel.ex hX x6
  replace hXL1 := Bel.ex hXL1 x6
  replace hs := hs.ext x6
  refine Rg_run rfl (o_geq rfl rfl) ?_
  refine Rg_nil ?_
  refine W_cond rfl (fun hc2 => ?_) (fun hc2 => ?_)
  · skip
    have hj2 : j < gap m := by
      rcases Nat.lt_or_ge j (gap m) with h | h
      · exact h
      · have e : j = gap m := by omega
        have h1 := fnd_gap hm
        have h2 := of_decide_eq_true hc2
        rw [e] at h2; omega
    refine W_skip (W_block (W_region ?_))
    refine Rg_run rfl (o_moveh (v := .int _ _) rfl) ?_
    refine Rg_run rfl (o_add rfl rfl (by have := gap_le m; unfold I64; omega)) ?_
    refine Rg_run rfl (o_assignh (v := .int _ _) rfl) ?_
    refine Rg_nil ?_
    refine ⟨j + 1, ⟨?_, trivial⟩, ?_, ⟨?_, hXL1⟩, ?_⟩
    · first | rfl | (go_num) | (exact congrArg _ (by omega))
    · repeat (first | exact off_refl _ _ | exact off_mix | refine off_put rfl ?_ | refine off_putN ?_ | refine off_setL rfl ?_ | refine off_mix' rfl ?_)
    · show j + 1 ≤ gap m; omega
    · omega
  have hj2 : j = gap m := by
    rcases Nat.lt_or_ge j (gap m) with h | h
    · have h1 := fnd_gap_lt (m := m) (k := (j : Int) + 1) (by omega) (by omega)
      have h2 := of_decide_eq_false hc2; omega
    · omega
  subst hj2
  refine W_exit (exAt_hit (W_seq (W_seq (W_region ?_))))
  refine Rg_run rfl (o_moveh (v := .int _ _) rfl) ?_
  refine Rg_run rfl (o_gtr rfl rfl) ?_
  refine Rg_nil ?_
  refine W_cond rfl (fun hc3 => ?_) (fun hc3 => ?_)
  · skip
    have hfull : 64 ≤ m.length := by have := of_decide_eq_true hc3; have := gap_le m; omega
    refine W_seq (W_region ?_)
    refine Rg_run rfl (o_moveh (v := .slice _ _ _) rfl) ?_
    refine Rg_run rfl (o_assignh (v := .slice _ _ _) rfl) ?_
    refine Rg_run rfl o_assignc ?_
    refine Rg_run rfl o_assignc ?_
    refine Rg_nil (W_ret ?_)
    refine ⟨_, res_T (vs := [.slice _ _ _, .int _ _, .int _ _]) rfl ⟨rfl, rfl, rfl, trivial⟩ (by simp), ?_⟩
    have e : openR m u = (m, 0, 14) := by rw [openR, if_neg hu, if_pos hfull]
    rw [e]
    exact ⟨⟨_, rfl, hs.trd⟩, hX⟩
  have hl64 : m.length < 64 := by
    rcases Nat.lt_or_ge m.length 64 with h | h
    · exact h
    · have h1 := gap_full hm (by omega)
      have h2 := of_decide_eq_false hc3; omega
  have hu2 : 1 ≤ u ∧ u ≤ 256 := by omega
  refine W_skip (W_seq (W_region ?_))
  refine Rg_run rfl o_assignc ?_
  refine Rg_nil (W_seq (W_seq (W_region ?_)))
  refine Rg_run rfl o_assignc ?_
  refine Rg_nil (W_block ?_)
  refine W_for (α := Nat × Value) [(8, 10), (27, 51)] (fun q => [(9, .int .i64 (q.1 : Int)), (8, q.2)]) (fun q w' => (1 ≤ q.1 ∧ q.1 ≤ 65) ∧ Bel False (fun g => w5.heap.size ≤ g) w5 w' ∧ (Own encRs 3 52 (fun g => w5.heap.size ≤ g) w' q.2 (flt (openM m u) (q.1 : Int)))) (fun q => 65 - q.1) (1, .slice none 0 0) ⟨rfl, rfl, trivial⟩ ⟨⟨by decide, by decide⟩, Bel.refl _ _, (by rw [show (((1 : Nat) : Int)) = 1 from rfl, flt_start (hm.open hu2 hl64)]; exact Own.nil _ _)⟩ ?_
  rintro ⟨k, t⟩ fb10 w9 ⟨⟨hk1, hk⟩, hXL8, hown⟩
  dsimp only at *
  have z11 := Bel.size hXL8
  replace hX := Bel.out hX hXL8 (fun g h1 h2 => by first | exact h2 | omega)
  replace hs := hs.keep hXL8 (fun g h1 h2 h3 => by omega)
  refine W_seq (W_seq (W_region ?_))
  refine Rg_run rfl (o_moveh (v := .int _ _) rfl) ?_
  refine Rg_run rfl (o_leq rfl rfl) ?_
  refine Rg_nil ?_
  refine W_cond rfl (fun hc4 => ?_) (fun hc4 => ?_)
  · skip
    replace hc4 := of_decide_eq_true hc4
    refine W_skip (W_seq (W_block (W_seq (W_region ?_))))
    refine Rg_run rfl (o_moveh (v := .int _ _) rfl) ?_
    refine Rg_run rfl (o_moveh (v := .int _ _) rfl) ?_
    refine Rg_run rfl (o_eql rfl rfl) ?_
    refine Rg_nil ?_
    refine W_cond rfl (fun hc5 => ?_) (fun hc5 => ?_)
    · skip
      have hkg := eq_of_beq hc5
      refine W_region ?_
      refine Rg_run rfl (o_moveh (v := t) rfl) ?_
      refine Rg_run rfl (o_moveh (v := .int _ _) rfl) ?_
      refine Rg_run rfl (o_moveh (v := .int _ _) rfl) ?_
      refine Rg_run rfl (o_build (cells := encRs (newS m u)) (vs := [(0, .int _ _), (1, .int _ _)]) rfl (by kernel_rfl)) ?_
      refine Rg_bs (vs := [.agg _]) ([newS m u]) rfl encRs_ok el_rse rfl rfl ⟨rfl, trivial⟩ rfl rfl rfl rfl ?_
      intro a38 w12 x13 hown38
      have z14 := Bel.size x13
      replace hX := Bel.ex hX x13
      replace hXL8 := Bel.ex hXL8 x13
      replace hown := hown.ext x13
      replace hown38 := hown38.mono (D' := fun g => w5.heap.size ≤ g) (fun g h1 h2 => by omega)
      refine Rg_app rfl encRs_ok el_rse rfl rfl hown (hown38.slA encRs_ok) rfl (by have h1 := flt_len (openM m u) k; have h2 := open_len m u; simp; omega) (fun g h => by omega) ?_
      intro v39 w15 x16 hown
      have z17 := Bel.size x16
      replace hX := Bel.out hX x16 (fun g h1 h2 => by first | exact h2 | omega)
      replace hXL8 := Bel.out hXL8 x16 (fun g h1 h2 => by first | exact h2 | omega)
      refine Rg_run rfl (o_assignh (v := v39) rfl) ?_
      refine Rg_nil (W_region ?_)
      refine Rg_run rfl (o_moveh (v := .int _ _) rfl) ?_
      refine Rg_run rfl (o_add rfl rfl (by first | omega | (unfold I64; omega) | (simp; done) | (simp; omega) | (simp at *; omega))) ?_
      refine Rg_run rfl (o_assignh (v := .int _ _) rfl) ?_
      refine Rg_nil ?_
      refine ⟨(k + 1, v39), ⟨?_, ?_, trivial⟩, ?_, ⟨?_, hXL8, ?_⟩, ?_⟩
      · first | rfl | (go_num) | (exact congrArg _ (by omega))
      · first | rfl | (go_num) | (exact congrArg _ (by omega))
      · repeat (first | exact off_refl _ _ | exact off_mix | refine off_put rfl ?_ | refine off_putN ?_ | refine off_setL rfl ?_ | refine off_mix' rfl ?_)
      · exact ⟨by show 1 ≤ k + 1; omega, by show k + 1 ≤ 65; omega⟩
      · show Own _ _ _ _ _ _ (flt (openM m u) (((k + 1 : Nat)) : Int))
        rw [show (((k + 1 : Nat)) : Int) = (k : Int) + 1 from rfl, open_hit hm hu2 hl64 hkg]; exact hown
      · show 65 - (k + 1) < 65 - k; omega
    have hkg : (k : Int) ≠ (gap m : Int) + 1 := by simpa using hc5
    refine W_seq (W_region ?_)
    refine Rg_run rfl (o_moveh (v := .slice _ _ _) rfl) ?_
    refine Rg_run rfl (o_moveh (v := .int _ _) rfl) ?_
    refine Rg_enter rfl (o_call2 Tryz.call142 rfl rfl) (Ok.mono (r22find_ok _ _ _ _ _ _ hs) ?_)
    rintro _ w18 ⟨rfl, x19⟩
    have z20 := Bel.size x19
    replace hX := Bel.ex hX x19
    replace hXL8 := Bel.ex hXL8 x19
    replace hs := hs.ext x19
    replace hown := hown.ext x19
    refine Rg_run rfl (o_assignh (v := .int _ _) rfl) ?_
    refine Rg_nil (W_seq (W_region ?_))
    refine Rg_run rfl (o_moveh (v := .int _ _) rfl) ?_
    refine Rg_run rfl (o_geq rfl rfl) ?_
    refine Rg_nil ?_
    refine W_cond rfl (fun hc6 => ?_) (fun hc6 => ?_)
    · skip
      obtain ⟨i, hi1, hi2, hi3⟩ := fnd_some (of_decide_eq_true hc6)
      rw [hi1]
      refine W_region ?_
      refine Rg_run rfl (o_moveh (v := t) rfl) ?_
      refine Rg_run rfl (o_moveh (v := .slice _ _ _) rfl) ?_
      refine Rg_run rfl (o_moveh (v := .int _ _) rfl) ?_
      refine Rg_run rfl (o_iaR Tryz.underlying27 Tryz.sizeOf52 hs rfl rfl (by first | omega | (unfold I64; omega) | (simp; done) | (simp; omega) | (simp at *; omega))) ?_
      refine Rg_run rfl (o_ldRS Tryz.isAgg52 Tryz.sizeOf52 hs rfl (getE rz hi2)) ?_
      refine Rg_bs (vs := [.agg _]) ([m.getD i rz]) rfl encRs_ok el_rse rfl rfl ⟨rfl, trivial⟩ rfl rfl rfl rfl ?_
      intro a50 w21 x22 hown50
      have z23 := Bel.size x22
      replace hX := Bel.ex hX x22
      replace hXL8 := Bel.ex hXL8 x22
      replace hown := hown.ext x22
      replace hown50 := hown50.mono (D' := fun g => w5.heap.size ≤ g) (fun g h1 h2 => by omega)
      refine Rg_app rfl encRs_ok el_rse rfl rfl hown (hown50.slA encRs_ok) rfl (by have h1 := flt_len (openM m u) k; have h2 := open_len m u; simp; omega) (fun g h => by omega) ?_
      intro v51 w24 x25 hown
      have z26 := Bel.size x25
      replace hX := Bel.out hX x25 (fun g h1 h2 => by first | exact h2 | omega)
      replace hXL8 := Bel.out hXL8 x25 (fun g h1 h2 => by first | exact h2 | omega)
      refine Rg_run rfl (o_assignh (v := v51) rfl) ?_
      refine Rg_nil (W_region ?_)
      refine Rg_run rfl (o_moveh (v := .int _ _) rfl) ?_
      refine Rg_run rfl (o_add rfl rfl (by first | omega | (unfold I64; omega) | (simp; done) | (simp; omega) | (simp at *; omega))) ?_
      refine Rg_run rfl (o_assignh (v := .int _ _) rfl) ?_
      refine Rg_nil ?_
      refine ⟨(k + 1, v51), ⟨?_, ?_, trivial⟩, ?_, ⟨?_, hXL8, ?_⟩, ?_⟩
      · first | rfl | (go_num) | (exact congrArg _ (by omega))
      · first | rfl | (go_num) | (exact congrArg _ (by omega))
      · repeat (first | exact off_refl _ _ | exact off_mix | refine off_put rfl ?_ | refine off_putN ?_ | refine off_setL rfl ?_ | refine off_mix' rfl ?_)
      · exact ⟨by show 1 ≤ k + 1; omega, by show k + 1 ≤ 65; omega⟩
      · show Own _ _ _ _ _ _ (flt (openM m u) (((k + 1 : Nat)) : Int))
        rw [show (((k + 1 : Nat)) : Int) = (k : Int) + 1 from rfl, open_old hm hu2 hl64 hi2 hi3]; exact hown
      · show 65 - (k + 1) < 65 - k; omega
    have hf6 := of_decide_eq_false hc6
    refine W_skip (W_region ?_)
    refine Rg_run rfl (o_moveh (v := .int _ _) rfl) ?_
    refine Rg_run rfl (o_add rfl rfl (by first | omega | (unfold I64; omega) | (simp; done) | (simp; omega) | (simp at *; omega))) ?_
    refine Rg_run rfl (o_assignh (v := .int _ _) rfl) ?_
    refine Rg_nil ?_
    refine ⟨(k + 1, t), ⟨?_, ?_, trivial⟩, ?_, ⟨?_, hXL8, ?_⟩, ?_⟩
    · first | rfl | (go_num) | (exact congrArg _ (by omega))
    · first | rfl | (go_num) | (exact congrArg _ (by omega))
    · repeat (first | exact off_refl _ _ | exact off_mix | refine off_put rfl ?_ | refine off_putN ?_ | refine off_setL rfl ?_ | refine off_mix' rfl ?_)
    · exact ⟨by show 1 ≤ k + 1; omega, by show k + 1 ≤ 65; omega⟩
    · show Own _ _ _ _ _ _ (flt (openM m u) (((k + 1 : Nat)) : Int))
      rw [show (((k + 1 : Nat)) : Int) = (k : Int) + 1 from rfl, open_no hm hu2 hl64 hkg (by omega)]; exact hown
    · show 65 - (k + 1) < 65 - k; omega
  replace hc4 := of_decide_eq_false hc4
  refine W_exit (exAt_hit (W_seq (W_region ?_)))
  refine Rg_run rfl (o_moveh (v := t) rfl) ?_
  refine Rg_run rfl (o_moveh (v := .int _ _) rfl) ?_
  refine Rg_run rfl (o_assignh (v := t) rfl) ?_
  refine Rg_run rfl (o_assignh (v := .int _ _) rfl) ?_
  refine Rg_run rfl o_assignc ?_
  refine Rg_nil (W_ret ?_)
  refine ⟨_, res_T (vs := [(t), .int _ _, .int _ _]) rfl ⟨rfl, rfl, rfl, trivial⟩ (by simp), ?_⟩
  have e : openR m u = (openM m u, (gap m : Int) + 1, 0) := by rw [openR, if_neg hu, if_neg (by omega)]
  rw [e]
  have hk65 : k = 65 := by omega
  subst hk65
  rw [show (((65 : Nat) : Int)) = 65 from rfl, flt_all (hm.open hu2 hl64)] at hown
  exact ⟨⟨_, rfl, hown.trd encRs_ok⟩, hX⟩

theorem r22close_ok (v0 : Value) (G : Nat → Prop) (m : List RS) (w : World) (hs : Rd encRs 3 G w v0 m) (hm : OkM m) (n : Int) : Ok Tryz.prog 84 #[v0, .int .i64 n] w fun v w' => (∃ p, v = .tuple #[p, .int .i64 (closeR m n).2] ∧ Rd encRs 3 (Lt w'.heap.size) w' p (closeR m n).1) ∧ Ext False w w' := by
  obtain ⟨a, c, rfl, hs⟩ := hs
  replace hs := hs.mono (F' := fun g => g < w.heap.size) (fun g h1 h2 => h1)
  have hlen := hm.len
  refine Ok_of_W 30 Tryz.func84 rfl rfl rfl ?_
  have hX : Ext False w w := Bel.refl _ _
  refine W_seq (W_region ?_)
  refine Rg_run rfl o_assignc ?_
  refine Rg_run rfl o_assignc ?_
  refine Rg_nil (W_seq (W_seq (W_region ?_)))
  refine Rg_run rfl (o_moveh (v := .slice _ _ _) rfl) ?_
  refine Rg_run rfl (o_moveh (v := .int _ _) rfl) ?_
  refine Rg_enter rfl (o_call2 Tryz.call142 rfl rfl) (Ok.mono (r22find_ok _ _ _ _ _ _ hs) ?_)
  rintro _ w1 ⟨rfl, x2⟩
  have z3 := Bel.size x2
  replace hX := Bel.ex hX x2
  replace hs := hs.ext x2
  refine Rg_run rfl (o_lss rfl rfl) ?_
  refine Rg_nil ?_
  refine W_cond rfl (fun hc1 => ?_) (fun hc1 => ?_)
  · skip
    have hf := of_decide_eq_true hc1
    refine W_seq (W_region ?_)
    refine Rg_run rfl (o_moveh (v := .slice _ _ _) rfl) ?_
    refine Rg_run rfl (o_assignh (v := .slice _ _ _) rfl) ?_
    refine Rg_run rfl o_assignc ?_
    refine Rg_nil (W_ret ?_)
    refine ⟨_, res_tmp2 rfl rfl rfl, ?_⟩
    have e : closeR m n = (m, 4) := by rw [closeR, if_pos hf]
    rw [e]
    exact ⟨⟨_, rfl, hs.trd⟩, hX⟩
  have hf := of_decide_eq_false hc1
  refine W_skip (W_seq (W_region ?_))
  refine Rg_run rfl o_assignc ?_
  refine Rg_nil (W_seq (W_seq (W_region ?_)))
  refine Rg_run rfl (o_moveh (v := .slice _ _ _) rfl) ?_
  refine Rg_run rfl (o_llen Tryz.underlying27 rfl) ?_
  refine Rg_run rfl o_movec ?_
  refine Rg_nil (W_block ?_)
  refine W_for (α := Nat × Value) [(6, 6), (8, 8), (16, 28)] (fun q => [(16, .int .i64 (q.1 : Int)), (6, q.2)]) (fun q w' => (q.1 ≤ m.length) ∧ Bel False (fun g => w1.heap.size ≤ g) w1 w' ∧ (Own encRs 3 52 (fun g => w1.heap.size ≤ g) w' q.2 (closeM (m.take q.1) n))) (fun q => m.length - q.1) (0, .slice none 0 0) ⟨rfl, rfl, trivial⟩ ⟨Nat.zero_le _, Bel.refl _ _, Own.nil _ _⟩ ?_
  rintro ⟨k, t⟩ fb6 w5 ⟨hk, hXL4, hown⟩
  dsimp only at *
  have z7 := Bel.size hXL4
  replace hX := Bel.out hX hXL4 (fun g h1 h2 => by first | exact h2 | omega)
  replace hs := hs.keep hXL4 (fun g h1 h2 h3 => by omega)
  refine W_seq (W_region ?_)
  refine Rg_run rfl (o_lss rfl rfl) ?_
  refine Rg_nil (W_seq ?_)
  refine W_cond rfl (fun hc2 => ?_) (fun hc2 => ?_)
  · skip
    replace hc2 := of_decide_eq_true hc2
    refine W_skip (W_seq (W_block (W_seq (W_region ?_))))
    refine Rg_run rfl (o_iaR Tryz.underlying27 Tryz.sizeOf52 hs rfl rfl (by first | omega | (unfold I64; omega) | (simp; done) | (simp; omega) | (simp at *; omega))) ?_
    refine Rg_run rfl (o_ldRS Tryz.isAgg52 Tryz.sizeOf52 hs rfl (getE rz (by omega))) ?_
    refine Rg_alst rfl rfl Tryz.zeroValue52 rfl Tryz.sizeOf52 (fun _ => rfl) rfl rfl ?_
    intro b8 w8 x9 hge8 hb8
    have hlt8 := hb8.lt
    change Box _ _ _ (encRs _) at hb8
    have z10 := Bel.size x9
    replace hX := Bel.ex hX x9
    replace hXL4 := Bel.ex hXL4 x9
    replace hown := hown.ext x9
    refine Rg_nil (W_seq (W_region ?_))
    refine Rg_run rfl (o_fa Tryz.underlying52 rfl Tryz.sizeOf3 rfl) ?_
    refine Rg_run rfl (o_load1 Tryz.isAgg3 rfl (hb8.at.get 0 rfl)) ?_
    refine Rg_run rfl (o_moveh (v := .int _ _) rfl) ?_
    refine Rg_run rfl (o_neq rfl rfl) ?_
    refine Rg_nil ?_
    refine W_cond rfl (fun hc3 => ?_) (fun hc3 => ?_)
    · skip
      refine W_region ?_
      refine Rg_run rfl (o_moveh (v := t) rfl) ?_
      refine Rg_run rfl (o_loadS Tryz.isAgg52 Tryz.sizeOf52 rfl hb8.at rfl) ?_
      refine Rg_bs (vs := [.agg _]) ([m.getD k rz]) rfl encRs_ok el_rse rfl rfl ⟨rfl, trivial⟩ rfl rfl rfl rfl ?_
      intro a26 w11 x12 hown26
      have z13 := Bel.size x12
      replace hX := Bel.ex hX x12
      replace hXL4 := Bel.ex hXL4 x12
      replace hown := hown.ext x12
      replace hown26 := hown26.mono (D' := fun g => w1.heap.size ≤ g) (fun g h1 h2 => by omega)
      refine Rg_app rfl encRs_ok el_rse rfl rfl hown (hown26.slA encRs_ok) rfl (by have := close_len (m.take k) n; rw [List.length_take] at this; simp; omega) (fun g h => by omega) ?_
      intro v27 w14 x15 hown
      have z16 := Bel.size x15
      replace hX := Bel.out hX x15 (fun g h1 h2 => by first | exact h2 | omega)
      replace hXL4 := Bel.out hXL4 x15 (fun g h1 h2 => by first | exact h2 | omega)
      refine Rg_run rfl (o_assignh (v := v27) rfl) ?_
      refine Rg_nil (W_region ?_)
      refine Rg_run rfl (o_add rfl rfl (by first | omega | (unfold I64; omega) | (simp; done) | (simp; omega) | (simp at *; omega))) ?_
      refine Rg_run rfl (o_moveh (v := .int _ _) rfl) ?_
      refine Rg_nil ?_
      refine ⟨(k + 1, v27), ⟨?_, ?_, trivial⟩, ?_, ⟨?_, hXL4, ?_⟩, ?_⟩
      · first | rfl | (go_num) | (exact congrArg _ (by omega))
      · first | rfl | (go_num) | (exact congrArg _ (by omega))
      · repeat (first | exact off_refl _ _ | exact off_mix | refine off_put rfl ?_ | refine off_putN ?_ | refine off_setL rfl ?_ | refine off_mix' rfl ?_)
      · show k + 1 ≤ m.length; omega
      · show Own _ _ _ _ _ _ (closeM (m.take (k + 1)) n)
        rw [close_yes (by omega) hc3]; exact hown
      · show m.length - (k + 1) < m.length - k; omega
    refine W_skip (W_region ?_)
    refine Rg_run rfl (o_add rfl rfl (by first | omega | (unfold I64; omega) | (simp; done) | (simp; omega) | (simp at *; omega))) ?_
    refine Rg_run rfl (o_moveh (v := .int _ _) rfl) ?_
    refine Rg_nil ?_
    refine ⟨(k + 1, t), ⟨?_, ?_, trivial⟩, ?_, ⟨?_, hXL4, ?_⟩, ?_⟩
    · first | rfl | (go_num) | (exact congrArg _ (by omega))
    · first | rfl | (go_num) | (exact congrArg _ (by omega))
    · repeat (first | exact off_refl _ _ | exact off_mix | refine off_put rfl ?_ | refine off_putN ?_ | refine off_setL rfl ?_ | refine off_mix' rfl ?_)
    · show k + 1 ≤ m.length; omega
    · show Own _ _ _ _ _ _ (closeM (m.take (k + 1)) n)
      rw [close_no (by omega) hc3]; exact hown
    · show m.length - (k + 1) < m.length - k; omega
  replace hc2 := of_decide_eq_false hc2
  refine W_exit (exAt_hit (W_seq (W_region ?_)))
  refine Rg_run rfl (o_moveh (v := t) rfl) ?_
  refine Rg_run rfl (o_assignh (v := t) rfl) ?_
  refine Rg_run rfl o_assignc ?_
  refine Rg_nil (W_ret ?_)
  refine ⟨_, res_tmp2 rfl rfl rfl, ?_⟩
  have e : closeR m n = (closeM m n, 0) := by rw [closeR, if_neg hf]
  rw [e]
  rw [List.take_of_length_le (by omega)] at hown
  exact ⟨⟨_, rfl, hown.trd encRs_ok⟩, hX⟩

theorem r22set_ok (v0 : Value) (G : Nat → Prop) (m : List RS) (w : World) (hs : Rd encRs 3 G w v0 m) (hm : OkM m) (n r : Int) (act : Bool) : Ok Tryz.prog 85 #[v0, .int .i64 n, .int .i64 r, .bool act] w fun v w' => (∃ p, v = .tuple #[p, .int .i64 (setR m n r act).2] ∧ Rd encRs 3 (Lt w'.heap.size) w' p (setR m n r act).1) ∧ Ext False w w' := by
  obtain ⟨a, c, rfl, hs⟩ := hs
  replace hs := hs.mono (F' := fun g => g < w.heap.size) (fun g h1 h2 => h1)
  have hlen := hm.len
  refine Ok_of_W 63 Tryz.func85 rfl rfl rfl ?_
  have hX : Ext False w w := Bel.refl _ _
  refine W_seq (W_region ?_)
  refine Rg_run rfl o_assignc ?_
  refine Rg_run rfl o_assignc ?_
  refine Rg_nil (W_seq (W_seq (W_region ?_)))
  refine Rg_run rfl (o_moveh (v := .int _ _) rfl) ?_
  refine Rg_run rfl (o_lss rfl rfl) ?_
  refine Rg_run rfl (o_moveh (v := .bool _) rfl) ?_
  refine Rg_may 2 15 rfl rfl rfl (fun hg => (o_moveh (v := .int _ _) rfl)) ?_
  refine Rg_may 2 15 rfl rfl rfl (fun hg => (o_gtr (gsel (u := undef) hg) rfl)) ?_
  refine Rg_run rfl (o_or (u := undef) rfl rfl) ?_
  refine Rg_nil ?_
  refine W_cond rfl (fun hc1 => ?_) (fun hc1 => ?_)
  · skip
    have hr : r < 1 ∨ 63 < r := by simpa using hc1
    refine W_seq (W_region ?_)
    refine Rg_run rfl (o_moveh (v := .slice _ _ _) rfl) ?_
    refine Rg_run rfl (o_assignh (v := .slice _ _ _) rfl) ?_
    refine Rg_run rfl o_assignc ?_
    refine Rg_nil (W_ret ?_)
    refine ⟨_, res_tmp2 rfl rfl rfl, ?_⟩
    have e : setR m n r act = (m, 1) := by rw [setR, if_pos hr]
    rw [e]
    exact ⟨⟨_, rfl, hs.trd⟩, hX⟩
  have hr : ¬ (r < 1 ∨ 63 < r) := by simpa using hc1
  obtain ⟨rn, rfl⟩ : ∃ q : Nat, r = q := ⟨r.toNat, by omega⟩
  refine W_skip (W_seq (W_region ?_))
  refine Rg_run rfl (o_moveh (v := .slice _ _ _) rfl) ?_
  refine Rg_run rfl (o_moveh (v := .int _ _) rfl) ?_
  refine Rg_enter rfl (o_call2 Tryz.call142 rfl rfl) (Ok.mono (r22find_ok _ _ _ _ _ _ hs) ?_)
  rintro _ w1 ⟨rfl, x2⟩
  have z3 := Bel.size x2
  replace hX := Bel.ex hX x2
  replace hs := hs.ext x2
  refine Rg_run rfl (o_assignh (v := .int _ _) rfl) ?_
  refine Rg_nil (W_seq (W_seq (W_region ?_)))
  refine Rg_run rfl (o_moveh (v := .int _ _) rfl) ?_
  refine Rg_run rfl (o_lss rfl rfl) ?_
  refine Rg_nil ?_
  refine W_cond rfl (fun hc2 => ?_) (fun hc2 => ?_)
  · skip
    have hf := of_decide_eq_true hc2
    refine W_seq (W_region ?_)
    refine Rg_run rfl (o_moveh (v := .slice _ _ _) rfl) ?_
    refine Rg_run rfl (o_assignh (v := .slice _ _ _) rfl) ?_
    refine Rg_run rfl o_assignc ?_
    refine Rg_nil (W_ret ?_)
    refine ⟨_, res_tmp2 rfl rfl rfl, ?_⟩
    have e : setR m n (rn : Int) act = (m, 4) := by rw [setR, if_neg hr, if_pos hf]
    rw [e]
    exact ⟨⟨_, rfl, hs.trd⟩, hX⟩
  have hf := of_decide_eq_false hc2
  obtain ⟨i, hi1, hi2, hi3⟩ := fnd_some (m := m) (n := n) (by omega)
  rw [hi1]
  refine W_skip (W_seq (W_region ?_))
  refine Rg_run rfl (o_moveh (v := .slice _ _ _) rfl) ?_
  refine Rg_run rfl (o_moveh (v := .int _ _) rfl) ?_
  refine Rg_run rfl (o_iaR Tryz.underlying27 Tryz.sizeOf52 hs rfl rfl (by first | omega | (unfold I64; omega) | (simp; done) | (simp; omega) | (simp at *; omega))) ?_
  refine Rg_run rfl (o_faE Tryz.underlying52 rfl Tryz.sizeOf50 hs rfl (getE rz hi2)) ?_
  refine Rg_run rfl (o_ldE (j := 2) Tryz.isAgg50 hs rfl (getE rz hi2) rfl) ?_
  refine Rg_run rfl (o_moveh (v := .int _ _) rfl) ?_
  refine Rg_run rfl (o_shrU rfl rfl (by omega)) ?_
  refine Rg_run rfl (o_uremU (b := BitVec.ofNat 64 2) rfl rfl (by decide)) ?_
  refine Rg_run rfl (o_eqU (b := BitVec.ofNat 64 1) rfl rfl) ?_
  refine Rg_run rfl (o_assignh (v := .bool _) rfl) ?_
  refine Rg_nil (W_seq (W_seq (W_region ?_)))
  refine Rg_run rfl (o_moveh (v := .bool _) rfl) ?_
  refine Rg_run rfl (o_moveh (v := .bool _) rfl) ?_
  refine Rg_may 1 36 rfl rfl rfl (fun hg => (o_moveh (v := .bool _) rfl)) ?_
  refine Rg_run rfl (o_and (u := undef) rfl rfl) ?_
  refine Rg_nil ?_
  refine W_cond rfl (fun hc3 => ?_) (fun hc3 => ?_)
  · skip
    rw [bit_rem, Bool.and_eq_true] at hc3
    refine W_seq (W_region ?_)
    refine Rg_run rfl (o_moveh (v := .slice _ _ _) rfl) ?_
    refine Rg_run rfl (o_assignh (v := .slice _ _ _) rfl) ?_
    refine Rg_run rfl o_assignc ?_
    refine Rg_nil (W_ret ?_)
    refine ⟨_, res_tmp2 rfl rfl rfl, ?_⟩
    have e : setR m n (rn : Int) act = (m, 5) := by
      rw [setR, if_neg hr, if_neg (by omega), hi1, Int.toNat_natCast, if_pos (by rw [hasB, Int.toNat_natCast, hc3.1, hc3.2]), hc3.1]; rfl
    rw [e]
    exact ⟨⟨_, rfl, hs.trd⟩, hX⟩
  rw [bit_rem] at hc3
  refine W_skip (W_seq (W_seq (W_region ?_)))
  refine Rg_run rfl (o_moveh (v := .bool _) rfl) ?_
  refine Rg_run rfl (o_not rfl) ?_
  refine Rg_run rfl (o_moveh (v := .bool _) rfl) ?_
  refine Rg_may 2 42 rfl rfl rfl (fun hg => (o_moveh (v := .bool _) rfl)) ?_
  refine Rg_may 2 42 rfl rfl rfl (fun hg => (o_not (gsel (u := undef) hg))) ?_
  refine Rg_run rfl (o_and (u := undef) rfl rfl) ?_
  refine Rg_nil ?_
  refine W_cond rfl (fun hc4 => ?_) (fun hc4 => ?_)
  · skip
    rw [bit_rem, Bool.and_eq_true] at hc4
    refine W_seq (W_region ?_)
    refine Rg_run rfl (o_moveh (v := .slice _ _ _) rfl) ?_
    refine Rg_run rfl (o_assignh (v := .slice _ _ _) rfl) ?_
    refine Rg_run rfl o_assignc ?_
    refine Rg_nil (W_ret ?_)
    refine ⟨_, res_tmp2 rfl rfl rfl, ?_⟩
    have e : setR m n (rn : Int) act = (m, 4) := by
      have ha : act = false := by simpa using hc4.1
      rw [setR, if_neg hr, if_neg (by omega), hi1, Int.toNat_natCast, if_pos (by rw [hasB, Int.toNat_natCast, ha]; simpa using hc4.2), ha]; rfl
    rw [e]
    exact ⟨⟨_, rfl, hs.trd⟩, hX⟩
  rw [bit_rem] at hc4
  have hne : ¬ hasB (m.getD i rz).x (rn : Int) = act := by
    rw [hasB, Int.toNat_natCast]
    cases act <;> cases hx : (m.getD i rz).x.getLsbD rn <;> simp_all
  refine W_skip (W_seq (W_region ?_))
  refine Rg_bs (vs := []) (([] : List RS)) rfl encRs_ok el_rse rfl rfl trivial rfl rfl rfl rfl ?_
  intro a47 w4 x5 hown47
  have z6 := Bel.size x5
  replace hX := Bel.ex hX x5
  replace hs := hs.ext x5
  replace hown47 := hown47.mono (D' := fun g => w.heap.size ≤ g) (fun g h1 h2 => by omega)
  refine Rg_run rfl (o_moveh (v := .slice _ _ _) rfl) ?_
  refine Rg_app rfl encRs_ok el_rse rfl rfl hown47 hs rfl (by simp; omega) (fun g h => by omega) ?_
  intro v49 w7 x8 hown47
  have z9 := Bel.size x8
  replace hX := Bel.out hX x8 (fun g h1 h2 => by first | exact h2 | omega)
  refine Rg_run rfl (o_assignh (v := v49) rfl) ?_
  refine Rg_nil (W_seq ?_)
  rw [List.nil_append] at hown47
  obtain ⟨a47, c47, hv47, -⟩ := hown47.sl encRs_ok
  subst hv47
  apply W_drawC (β := False) (fun _ => 0) [peqC _, peqC _, peqC _, peqC _, peqC _, peqC _, peqC _, peqC _, peqC _, peqC _, peqC _, peqC _] [0, 0, 0, 0, 0, 0, 0, 0, 0, 0, 0, 0] 12 mixed (by kernel_rfl) (by kernel_rfl) rfl ⟨peqC_stable _ _, peqC_stable _ _, peqC_stable _ _, peqC_stable _ _, peqC_stable _ _, peqC_stable _ _, peqC_stable _ _, peqC_stable _ _, peqC_stable _ _, peqC_stable _ _, peqC_stable _ _, peqC_stable _ _, trivial⟩ ?ob12 ?fin12
  case ob12 =>
    refine OblC_cons (fun w10 c12 x11 hc013 hk14 => ?_) ?_
    · skip
      replace x11 := RelG.ext0 x11
      have z15 := Bel.size x11
      refine bindC_nil ?_
      exact OpC_v rfl (o_moveh (v := .slice a47 m.length c47) rfl)
    refine OblC_cons (fun w16 c18 x17 hc019 hk20 => ?_) ?_
    · skip
      replace x17 := RelG.ext0 x17
      have z21 := Bel.size x17
      refine bindC_nil ?_
      exact OpC_v rfl (o_moveh (v := .int _ _) rfl)
    refine OblC_cons (fun w22 c24 x23 hc025 hk26 => ?_) ?_
    · skip
      replace x23 := RelG.ext0 x23
      have z27 := Bel.size x23
      refine bindC_nil ?_
      exact OpC_v rfl (o_moveh (v := .slice a47 m.length c47) rfl)
    refine OblC_cons (fun w28 c30 x29 hc031 hk32 => ?_) ?_
    · skip
      replace x29 := RelG.ext0 x29
      have z33 := Bel.size x29
      refine bindC_nil ?_
      exact OpC_v rfl (o_moveh (v := .int _ _) rfl)
    refine OblC_cons (fun w34 c36 x35 hc037 hk38 => ?_) ?_
    · skip
      replace x35 := RelG.ext0 x35
      have z39 := Bel.size x35
      have hown47 := hown47.ext x35
      refine bindC_eq (bindC_eq (bindC_nil ?_))
      exact OpC_v rfl (o_iaO (i := i) Tryz.underlying27 Tryz.sizeOf52 hown47 rfl rfl (by omega))
    refine OblC_cons (fun w40 c42 x41 hc043 hk44 => ?_) ?_
    · skip
      replace x41 := RelG.ext0 x41
      have z45 := Bel.size x41
      have hown47 := hown47.ext x41
      refine bindC_eq (bindC_nil ?_)
      exact OpC_v rfl (o_faE Tryz.underlying52 rfl Tryz.sizeOf50 (hown47.slA encRs_ok) rfl (getE rz hi2))
    refine OblC_cons (fun w46 c48 x47 hc049 hk50 => ?_) ?_
    · skip
      replace x47 := RelG.ext0 x47
      have z51 := Bel.size x47
      have hown47 := hown47.ext x47
      refine bindC_eq (bindC_nil ?_)
      exact OpC_v rfl (o_ldE (j := 2) Tryz.isAgg50 (hown47.slA encRs_ok) rfl (getE rz hi2) rfl)
    refine OblC_cons (fun w52 c54 x53 hc055 hk56 => ?_) ?_
    · skip
      replace x53 := RelG.ext0 x53
      have z57 := Bel.size x53
      refine bindC_nil ?_
      exact OpC_v rfl (o_moveh (v := .int _ _) rfl)
    refine OblC_cons (fun w58 c60 x59 hc061 hk62 => ?_) ?_
    · skip
      replace x59 := RelG.ext0 x59
      have z63 := Bel.size x59
      refine bindC_eq (bindC_nil ?_)
      exact OpC_v rfl (o_shlU (a := BitVec.ofNat 64 1) rfl rfl (by omega))
    refine OblC_cons (fun w64 c66 x65 hc067 hk68 => ?_) ?_
    · skip
      replace x65 := RelG.ext0 x65
      have z69 := Bel.size x65
      refine bindC_eq (bindC_eq (bindC_nil ?_))
      exact OpC_v rfl (o_bxor rfl rfl)
    refine OblC_cons (fun w70 c72 x71 hc073 hk74 => ?_) ?_
    · skip
      replace x71 := RelG.ext0 x71
      have z75 := Bel.size x71
      have hown47 := hown47.ext x71
      refine bindC_eq (bindC_eq (bindC_eq (bindC_eq (bindC_eq (bindC_eq (bindC_eq (bindC_eq (bindC_eq ?_))))))))
      refine bindC_eq (bindC_eq (bindC_eq (bindC_nil ?_)))
      exact OpC_v rfl (o_iaO (i := i) Tryz.underlying27 Tryz.sizeOf52 hown47 rfl rfl (by omega))
    refine OblC_cons (fun w76 c78 x77 hc079 hk80 => ?_) ?_
    · skip
      replace x77 := RelG.ext0 x77
      have z81 := Bel.size x77
      have hown47 := hown47.ext x77
      refine bindC_eq (bindC_eq (bindC_eq (bindC_eq (bindC_eq (bindC_eq (bindC_eq (bindC_eq (bindC_eq ?_))))))))
      refine bindC_eq (bindC_eq (bindC_nil ?_))
      exact OpC_v rfl (o_faE Tryz.underlying52 rfl Tryz.sizeOf50 (hown47.slA encRs_ok) rfl (getE rz hi2))
    exact OblC_nil
  case fin12 =>
    intro w82 c84 x83 hc085
    replace x83 := RelG.ext0 x83
    have z86 := Bel.size x83
    replace hX := Bel.ex hX x83
    replace hown47 := hown47.ext x83
    refine bindC_eq (bindC_eq (bindC_eq (bindC_eq (bindC_eq (bindC_eq (bindC_eq (bindC_eq (bindC_eq ?_))))))))
    refine bindC_eq (bindC_eq (bindC_eq (bindC_nil ?_)))
    refine Rg_elstF (i := i) (j := 2) (⟨(m.getD i rz).n, (m.getD i rz).u, (m.getD i rz).x ^^^ (1#64 <<< rn)⟩) ((m.getD i rz)) rfl encRs_ok Tryz.sizeOf50 rfl rfl rfl rfl hown47 (getE rz hi2) rfl (by decide) ?_
    intro w87 x88 hown47
    have z89 := Bel.size x88
    replace hX := Bel.out hX x88 (fun g h1 h2 => by first | exact h2 | omega)
    refine Rg_nil (W_seq (W_region ?_))
    refine Rg_run rfl (o_moveh (v := .slice a47 m.length c47) rfl) ?_
    refine Rg_run rfl (o_assignh (v := .slice a47 m.length c47) rfl) ?_
    refine Rg_run rfl o_assignc ?_
    refine Rg_nil (W_ret ?_)
    refine ⟨_, res_tmp2 rfl rfl rfl, ?_⟩
    have e : setR m n (rn : Int) act = (setM m i ((m.getD i rz).x ^^^ oneW rn), 0) := by
      rw [setR, if_neg hr, if_neg (by omega), hi1, Int.toNat_natCast, if_neg hne, Int.toNat_natCast]
    rw [e]
    exact ⟨⟨_, rfl, hown47.trd encRs_ok⟩, hX⟩

theorem lis_ok (v0 : Value) (m : List RS) (w : World) (hb0 : BkIs w v0 m) (hm : OkM m) (v1 : Value) (hs : Rd encRs 3 (Lt w.heap.size) w v1 m) : Ok Tryz.prog 21 #[v0, v1] w fun v w' => v = .bool true ∧ Ext False w w' := by
  obtain ⟨a, c, rfl, hs⟩ := hs
  have hml := hm.len
  replace hs := hs.mono (F' := fun g => g < w.heap.size) (fun g h1 h2 => h1)
  refine Ok_of_W 60 Tryz.func21 rfl rfl rfl ?_
  have hX : Ext False w w := Bel.refl _ _
  refine W_seq (W_region ?_)
  refine Rg_run rfl o_assignc ?_
  refine Rg_nil (W_seq (W_region ?_))
  refine Rg_run rfl (o_moveh (v := v0) rfl) ?_
  refine Rg_enter rfl (o_call1 Tryz.call10 rfl) (Ok.mono (slist_ok _ _ _ hb0 hm) ?_)
  rintro v9 w1 ⟨⟨l9, hown9, hws9, hl9⟩, x2⟩
  have z3 := Bel.size x2
  replace hX := Bel.ex hX x2
  replace hb0 := hb0.ext x2
  replace hs := hs.ext x2
  have hll9 := congrArg List.length hl9
  rw [List.length_map] at hll9
  refine Rg_run rfl (o_assignh (v := v9) rfl) ?_
  refine Rg_nil (W_seq (W_seq (W_region ?_)))
  obtain ⟨a9, c9, hv9, hs9⟩ := hown9.sl encSe_ok
  subst hv9
  refine Rg_run rfl (o_moveh (v := v0) rfl) ?_
  refine Rg_enter rfl (o_call1 Tryz.call12 rfl) (Ok.mono (slen_ok _ _ _ hb0 hm) ?_)
  rintro _ w4 ⟨rfl, x5⟩
  have z6 := Bel.size x5
  replace hX := Bel.ex hX x5
  replace hb0 := hb0.ext x5
  replace hs := hs.ext x5
  replace hws9 := hws9.ext x5
  replace hs9 := hs9.ext x5
  refine Rg_run rfl (o_moveh (v := .slice _ _ _) rfl) ?_
  refine Rg_run rfl (o_llen Tryz.underlying27 rfl) ?_
  refine Rg_run rfl (o_neq rfl rfl) ?_
  refine Rg_run rfl (o_moveh (v := .bool _) rfl) ?_
  refine Rg_on 5 15 rfl (congrArg Value.bool (by simp)) ?_
  refine Rg_run rfl (o_moveh (v := .slice _ _ _) rfl) ?_
  refine Rg_on 5 15 rfl (congrArg Value.bool (by simp)) ?_
  refine Rg_run rfl (o_llen Tryz.underlying32 rfl) ?_
  refine Rg_on 5 15 rfl (congrArg Value.bool (by simp)) ?_
  refine Rg_run rfl (o_moveh (v := .slice _ _ _) rfl) ?_
  refine Rg_on 5 15 rfl (congrArg Value.bool (by simp)) ?_
  refine Rg_run rfl (o_llen Tryz.underlying27 rfl) ?_
  refine Rg_on 5 15 rfl (congrArg Value.bool (by simp)) ?_
  refine Rg_run rfl (o_neq rfl rfl) ?_
  refine Rg_run rfl (o_pickF (v := .bool _) (congrArg Value.bool (by simp)) rfl) ?_
  refine Rg_nil ?_
  refine W_cond_false (congrArg Value.bool (by rw [hll9]; simp)) ?_
  refine W_skip (W_seq (W_seq (W_region ?_)))
  refine Rg_run rfl (o_moveh (v := .slice _ _ _) rfl) ?_
  refine Rg_run rfl (o_llen Tryz.underlying27 rfl) ?_
  refine Rg_run rfl o_movec ?_
  refine Rg_nil (W_block ?_)
  refine W_for (α := Nat) [(4, 4), (6, 7), (24, 59)] (fun k => [(24, .int .i64 (k : Int))]) (fun k w' => (k ≤ m.length) ∧ Ext False w4 w') (fun k => m.length - k) 0 ⟨rfl, trivial⟩ ⟨Nat.zero_le _, Bel.refl _ _⟩ ?_
  rintro k fb9 w8 ⟨hk, hXL7⟩
  have z10 := Bel.size hXL7
  replace hX := Bel.ex hX hXL7
  replace hb0 := hb0.ext hXL7
  replace hs := hs.ext hXL7
  replace hws9 := hws9.ext hXL7
  replace hs9 := hs9.ext hXL7
  refine W_seq (W_region ?_)
  refine Rg_run rfl (o_lss rfl rfl) ?_
  refine Rg_nil (W_seq ?_)
  refine W_cond rfl (fun hc2 => ?_) (fun hc2 => ?_)
  · skip
    replace hc2 := of_decide_eq_true hc2
    refine W_skip (W_seq (W_block (W_seq (W_region ?_))))
    refine Rg_run rfl (o_moveh (v := .int _ _) rfl) ?_
    refine Rg_run rfl (o_iaR Tryz.underlying27 Tryz.sizeOf52 hs rfl rfl (by first | omega | (unfold I64; omega) | (simp; done) | (simp; omega) | (simp at *; omega))) ?_
    refine Rg_run rfl (o_ldRS Tryz.isAgg52 Tryz.sizeOf52 hs rfl (getE rz (by omega))) ?_
    refine Rg_newB rfl (o_alloc Tryz.zeroValue52) ?_
    intro b7 w11 x12 hge7 hb7
    have hlt7 := hb7.lt
    change Box _ _ _ ([.int _ _, .int _ _, .int _ _]) at hb7
    have z13 := Bel.size x12
    replace hX := Bel.ex hX x12
    replace hXL7 := Bel.ex hXL7 x12
    replace hws9 := hws9.ext x12
    replace hs9 := hs9.ext x12
    refine Rg_run rfl (o_assignh (v := .int _ _) rfl) ?_
    refine Rg_storeW (v := .agg _) rfl Tryz.sizeOf52 rfl rfl hb7 rfl rfl rfl ?_
    intro w14 c15 hb7
    change Box _ _ _ (encRs _) at hb7
    have z16 := Bel.size c15
    replace hX := Bel.out hX c15 (fun g h1 h2 => by first | exact h2 | omega)
    replace hXL7 := Bel.out hXL7 c15 (fun g h1 h2 => by first | exact h2 | omega)
    replace hws9 := hws9.keep c15 (fun g h1 h2 h3 => by omega)
    replace hs9 := hs9.keep c15 (fun g h1 h2 h3 => by omega)
    refine Rg_nil (W_seq ?_)
    apply W_draw (β := False) [peq _, peq _, peq _, peq _, peq _, peq _, peq _, peq _, peq _, peq _, peq _, peq _, peq _, peq _, peq _, peq _, peq _, peq _, peq _, peq _, peq _, peq _, peq _, peq _, peq _, peq _, (postSV (fun _ => True) (m.getD k rz).x), peq _, peq _, peq _] 30 mixed (by kernel_rfl) rfl ⟨peq_stable _, peq_stable _, peq_stable _, peq_stable _, peq_stable _, peq_stable _, peq_stable _, peq_stable _, peq_stable _, peq_stable _, peq_stable _, peq_stable _, peq_stable _, peq_stable _, peq_stable _, peq_stable _, peq_stable _, peq_stable _, peq_stable _, peq_stable _, peq_stable _, peq_stable _, peq_stable _, peq_stable _, peq_stable _, peq_stable _, (postSV_stable _ _), peq_stable _, peq_stable _, peq_stable _, trivial⟩ ?ob7 ?fin7
    case ob7 =>
      refine OblL_cons (fun w17 x18 => ?_) ?_
      · skip
        have z19 := Bel.size x18
        refine bindP_nil ?_
        exact OpS_v rfl (o_moveh (v := .slice _ _ _) rfl)
      refine OblL_cons (fun w20 x21 => ?_) ?_
      · skip
        have z22 := Bel.size x21
        refine bindP_nil ?_
        exact OpS_v rfl (o_moveh (v := .int _ _) rfl)
      refine OblL_cons (fun w23 x24 => ?_) ?_
      · skip
        have z25 := Bel.size x24
        have hs9 := hs9.ext x24
        refine bindP_eq (bindP_eq (bindP_nil ?_))
        exact OpS_v rfl (o_iaR Tryz.underlying32 Tryz.sizeOf38 hs9 rfl rfl (by first | omega | (unfold I64; omega) | (simp; done) | (simp; omega) | (simp at *; omega)))
      refine OblL_cons (fun w26 x27 => ?_) ?_
      · skip
        have z28 := Bel.size x27
        have hs9 := hs9.ext x27
        refine bindP_eq (bindP_nil ?_)
        exact OpS_v rfl (o_faE Tryz.underlying38 rfl Tryz.sizeOf3 hs9 rfl (getE (i := k) sez (by omega)))
      refine OblL_cons (fun w29 x30 => ?_) ?_
      · skip
        have z31 := Bel.size x30
        have hs9 := hs9.ext x30
        refine bindP_eq (bindP_nil ?_)
        exact OpS_v rfl (o_ldE (j := 0) Tryz.isAgg3 hs9 rfl (getE (i := k) sez (by omega)) rfl)
      refine OblL_cons (fun w32 x33 => ?_) ?_
      · skip
        have z34 := Bel.size x33
        refine bindP_nil ?_
        exact OpS_v rfl (o_fa Tryz.underlying52 rfl Tryz.sizeOf3 rfl)
      refine OblL_cons (fun w35 x36 => ?_) ?_
      · skip
        have z37 := Bel.size x36
        have hb7 := hb7.ext x36
        refine bindP_eq (bindP_nil ?_)
        exact OpS_v rfl (o_load1 Tryz.isAgg3 rfl (hb7.at.get 0 rfl))
      refine OblL_cons (fun w38 x39 => ?_) ?_
      · skip
        have z40 := Bel.size x39
        refine bindP_eq (bindP_eq (bindP_nil ?_))
        exact OpS_v rfl (o_neq rfl rfl)
      refine OblL_cons (fun w41 x42 => ?_) ?_
      · skip
        have z43 := Bel.size x42
        refine bindP_eq (bindP_nil ?_)
        exact OpS_v rfl (o_moveh (v := .bool _) rfl)
      refine OblL_cons (fun w44 x45 => ?_) ?_
      · skip
        have z46 := Bel.size x45
        refine bindP_eq (bindP_nil ?_)
        refine OpS_on 8 37 rfl (congrArg Value.bool (bne_f (by rw [← hl9, rs_get]; rfl))) ?_
        exact OpS_v rfl (o_moveh (v := .slice _ _ _) rfl)
      refine OblL_cons (fun w47 x48 => ?_) ?_
      · skip
        have z49 := Bel.size x48
        refine bindP_eq (bindP_nil ?_)
        refine OpS_on 8 37 rfl (congrArg Value.bool (bne_f (by rw [← hl9, rs_get]; rfl))) ?_
        exact OpS_v rfl (o_moveh (v := .int _ _) rfl)
      refine OblL_cons (fun w50 x51 => ?_) ?_
      · skip
        have z52 := Bel.size x51
        have hs9 := hs9.ext x51
        refine bindP_eq (bindP_eq (bindP_eq (bindP_nil ?_)))
        refine OpS_on 8 37 rfl (congrArg Value.bool (bne_f (by rw [← hl9, rs_get]; rfl))) ?_
        exact OpS_v rfl (o_iaR Tryz.underlying32 Tryz.sizeOf38 hs9 rfl rfl (by first | omega | (unfold I64; omega) | (simp; done) | (simp; omega) | (simp at *; omega)))
      refine OblL_cons (fun w53 x54 => ?_) ?_
      · skip
        have z55 := Bel.size x54
        have hs9 := hs9.ext x54
        refine bindP_eq (bindP_eq (bindP_nil ?_))
        refine OpS_on 8 37 rfl (congrArg Value.bool (bne_f (by rw [← hl9, rs_get]; rfl))) ?_
        exact OpS_v rfl (o_faE Tryz.underlying38 rfl Tryz.sizeOf3 hs9 rfl (getE (i := k) sez (by omega)))
      refine OblL_cons (fun w56 x57 => ?_) ?_
      · skip
        have z58 := Bel.size x57
        have hs9 := hs9.ext x57
        refine bindP_eq (bindP_eq (bindP_nil ?_))
        refine OpS_on 8 37 rfl (congrArg Value.bool (bne_f (by rw [← hl9, rs_get]; rfl))) ?_
        exact OpS_v rfl (o_ldE (j := 1) Tryz.isAgg3 hs9 rfl (getE (i := k) sez (by omega)) rfl)
      refine OblL_cons (fun w59 x60 => ?_) ?_
      · skip
        have z61 := Bel.size x60
        refine bindP_eq (bindP_nil ?_)
        refine OpS_on 8 37 rfl (congrArg Value.bool (bne_f (by rw [← hl9, rs_get]; rfl))) ?_
        exact OpS_v rfl (o_fa Tryz.underlying52 rfl Tryz.sizeOf3 rfl)
      refine OblL_cons (fun w62 x63 => ?_) ?_
      · skip
        have z64 := Bel.size x63
        have hb7 := hb7.ext x63
        refine bindP_eq (bindP_eq (bindP_nil ?_))
        refine OpS_on 8 37 rfl (congrArg Value.bool (bne_f (by rw [← hl9, rs_get]; rfl))) ?_
        exact OpS_v rfl (o_load1 Tryz.isAgg3 rfl (hb7.at.get 1 rfl))
      refine OblL_cons (fun w65 x66 => ?_) ?_
      · skip
        have z67 := Bel.size x66
        refine bindP_eq (bindP_eq (bindP_eq (bindP_nil ?_)))
        refine OpS_on 8 37 rfl (congrArg Value.bool (bne_f (by rw [← hl9, rs_get]; rfl))) ?_
        exact OpS_v rfl (o_neq rfl rfl)
      refine OblL_cons (fun w68 x69 => ?_) ?_
      · skip
        have z70 := Bel.size x69
        refine bindP_eq (bindP_eq (bindP_nil ?_))
        exact OpS_v rfl (o_pickF (v := .bool _) (congrArg Value.bool (bne_f (by rw [← hl9, rs_get]; rfl))) rfl)
      refine OblL_cons (fun w71 x72 => ?_) ?_
      · skip
        have z73 := Bel.size x72
        refine bindP_eq (bindP_eq (bindP_nil ?_))
        exact OpS_v rfl (o_moveh (v := .bool _) rfl)
      refine OblL_cons (fun w74 x75 => ?_) ?_
      · skip
        have z76 := Bel.size x75
        refine bindP_eq (bindP_nil ?_)
        refine OpS_on 18 47 rfl (congrArg Value.bool (bne_f (by rw [← hl9, rs_get]; rfl))) ?_
        exact OpS_v rfl (o_moveh (v := .slice _ _ _) rfl)
      refine OblL_cons (fun w77 x78 => ?_) ?_
      · skip
        have z79 := Bel.size x78
        refine bindP_eq (bindP_nil ?_)
        refine OpS_on 18 47 rfl (congrArg Value.bool (bne_f (by rw [← hl9, rs_get]; rfl))) ?_
        exact OpS_v rfl (o_moveh (v := .int _ _) rfl)
      refine OblL_cons (fun w80 x81 => ?_) ?_
      · skip
        have z82 := Bel.size x81
        have hs9 := hs9.ext x81
        refine bindP_eq (bindP_eq (bindP_eq (bindP_nil ?_)))
        refine OpS_on 18 47 rfl (congrArg Value.bool (bne_f (by rw [← hl9, rs_get]; rfl))) ?_
        exact OpS_v rfl (o_iaR Tryz.underlying32 Tryz.sizeOf38 hs9 rfl rfl (by first | omega | (unfold I64; omega) | (simp; done) | (simp; omega) | (simp at *; omega)))
      refine OblL_cons (fun w83 x84 => ?_) ?_
      · skip
        have z85 := Bel.size x84
        have hs9 := hs9.ext x84
        refine bindP_eq (bindP_eq (bindP_nil ?_))
        refine OpS_on 18 47 rfl (congrArg Value.bool (bne_f (by rw [← hl9, rs_get]; rfl))) ?_
        exact OpS_v rfl (o_faE Tryz.underlying38 rfl Tryz.sizeOf36 hs9 rfl (getE (i := k) sez (by omega)))
      refine OblL_cons (fun w86 x87 => ?_) ?_
      · skip
        have z88 := Bel.size x87
        have hs9 := hs9.ext x87
        refine bindP_eq (bindP_eq (bindP_nil ?_))
        refine OpS_on 18 47 rfl (congrArg Value.bool (bne_f (by rw [← hl9, rs_get]; rfl))) ?_
        exact OpS_v rfl (o_ldES (j := 2) Tryz.isAgg36 Tryz.sizeOf36 hs9 rfl (getE (i := k) sez (by omega)) rfl rfl)
      refine OblL_cons (fun w89 x90 => ?_) ?_
      · skip
        have z91 := Bel.size x90
        refine bindP_eq (bindP_nil ?_)
        refine OpS_on 18 47 rfl (congrArg Value.bool (bne_f (by rw [← hl9, rs_get]; rfl))) ?_
        exact OpS_v rfl (o_fa Tryz.underlying52 rfl Tryz.sizeOf50 rfl)
      refine OblL_cons (fun w92 x93 => ?_) ?_
      · skip
        have z94 := Bel.size x93
        have hb7 := hb7.ext x93
        refine bindP_eq (bindP_eq (bindP_nil ?_))
        refine OpS_on 18 47 rfl (congrArg Value.bool (bne_f (by rw [← hl9, rs_get]; rfl))) ?_
        exact OpS_v rfl (o_load1 Tryz.isAgg50 rfl (hb7.at.get 2 rfl))
      refine OblL_cons (fun w95 x96 => ?_) ?_
      · skip
        have z97 := Bel.size x96
        refine bindP_eq (bindP_eq (bindP_eq (bindP_nil ?_)))
        refine OpS_on 18 47 rfl (congrArg Value.bool (bne_f (by rw [← hl9, rs_get]; rfl))) ?_
        exact OpS_mem rfl (o_call1 Tryz.call24 rfl) ((roles_ok (m.getD k rz).x _).mono (fun v w2 ⟨a, c, e, h, x⟩ => ⟨x, a, c, e, h.mono (fun _ _ _ => trivial)⟩))
      refine OblL_cons (fun w98 x99 => ?_) ?_
      · skip
        have z100 := Bel.size x99
        have hws9 := hws9.ext x99
        refine bindP_eq ?_
        refine bindP_mem (fun v55 hv55 => ?_)
        obtain ⟨a55, c55, rfl, hq55⟩ := hv55
        refine bindP_mem (fun v55 hv55 => ?_)
        obtain ⟨a55, c55, rfl, hq55⟩ := hv55
        refine bindP_eq (bindP_nil ?_)
        refine OpS_on 18 47 rfl (congrArg Value.bool (bne_f (by rw [← hl9, rs_get]; rfl))) ?_
        exact OpS_call rfl (o_call2 Tryz.call34 rfl rfl) (show Ok _ _ _ _ (fun v w' => v = .bool ((l9.getD k sez).x == (m.getD k rz).x) ∧ Ext False _ w') from beq_ok _ ⟨(l9.getD k sez).a, (l9.getD k sez).c, (l9.getD k sez).x⟩ _ (hws9 _ (gm (by omega))) ⟨a55, c55, (m.getD k rz).x⟩ _ hq55)
      refine OblL_cons (fun w101 x102 => ?_) ?_
      · skip
        have z103 := Bel.size x102
        refine bindP_eq (bindP_eq (bindP_nil ?_))
        refine OpS_on 18 47 rfl (congrArg Value.bool (bne_f (by rw [← hl9, rs_get]; rfl))) ?_
        exact OpS_v rfl (o_not rfl)
      refine OblL_cons (fun w104 x105 => ?_) ?_
      · skip
        have z106 := Bel.size x105
        refine bindP_eq (bindP_eq (bindP_nil ?_))
        exact OpS_v rfl (o_pickF (v := .bool _) (congrArg Value.bool (bne_f (by rw [← hl9, rs_get]; rfl))) rfl)
      exact OblL_nil
    case fin7 =>
      intro w107 x108
      have z109 := Bel.size x108
      replace hX := Bel.ex hX x108
      replace hXL7 := Bel.ex hXL7 x108
      refine bindP_eq (bindP_eq (bindP_eq (bindP_eq (bindP_eq (bindP_eq (bindP_eq (bindP_eq (bindP_eq ?_))))))))
      refine bindP_eq (bindP_eq (bindP_eq (bindP_eq (bindP_eq (bindP_eq (bindP_eq (bindP_eq (bindP_eq ?_))))))))
      refine bindP_eq (bindP_eq (bindP_eq (bindP_eq (bindP_eq (bindP_eq (bindP_eq (bindP_eq ?_)))))))
      refine bindP_mem (fun v55 hv55 => ?_)
      obtain ⟨a55, c55, rfl, hq55⟩ := hv55
      refine bindP_eq (bindP_eq (bindP_eq (bindP_nil (Rg_nil ?_))))
      refine W_cond_false (congrArg Value.bool (beq_f (by rw [← hl9, rs_get]; rfl))) ?_
      refine W_skip (W_region ?_)
      refine Rg_run rfl (o_add rfl rfl (by first | omega | (unfold I64; omega) | (simp; done) | (simp; omega) | (simp at *; omega))) ?_
      refine Rg_run rfl (o_moveh (v := .int _ _) rfl) ?_
      refine Rg_nil ?_
      refine ⟨k + 1, ⟨?_, trivial⟩, ?_, ⟨?_, hXL7⟩, ?_⟩
      · first | rfl | (go_num) | (exact congrArg _ (by omega))
      · repeat (first | exact off_refl _ _ | exact off_mix | refine off_put rfl ?_ | refine off_putN ?_ | refine off_setL rfl ?_ | refine off_mix' rfl ?_)
      · show k + 1 ≤ m.length; omega
      · omega
  replace hc2 := of_decide_eq_false hc2
  refine W_exit (exAt_hit (W_seq (W_region ?_)))
  refine Rg_run rfl o_assignc ?_
  refine Rg_nil (W_ret ?_)
  refine ⟨_, res_tmp rfl rfl, ?_⟩
  refine ⟨congrArg Value.bool ?_, hX⟩
  all_goals (rfl)

theorem lapply_ok (v0 : Value) (m : List RS) (w : World) (hb0 : BkIs w v0 m) (hm : OkM m) (v1 : Value) (hs : Rd encRs 3 (Lt w.heap.size) w v1 m) (o : SOp) (hor : I64 o.r) : Ok Tryz.prog 36 #[v0, v1, .agg (encOp o).toArray] w fun v w' => (∃ p q, v = .tuple #[p, q, .bool true] ∧ BkIs w' p (stepR m o).1 ∧ Rd encRs 3 (Lt w'.heap.size) w' q (stepR m o).1) ∧ Ext False w w' := by
  have hnr := numO_rng o
  refine Ok_of_W 118 Tryz.func36 rfl rfl rfl ?_
  have hX : Ext False w w := Bel.refl _ _
  refine W_seq (W_region ?_)
  refine Rg_newB rfl (o_box (v := .agg _) rfl) ?_
  intro b5 w1 x2 hge5 hb5
  have hlt5 := hb5.lt
  change Box _ _ _ (encOp _) at hb5
  have z3 := Bel.size x2
  replace hX := Bel.ex hX x2
  replace hb0 := hb0.ext x2
  replace hs := (hs.ext x2).top
  refine Rg_run rfl o_assignc ?_
  refine Rg_run rfl o_assignc ?_
  refine Rg_run rfl o_assignc ?_
  refine Rg_nil (W_seq (W_region ?_))
  refine Rg_run rfl o_assignc ?_
  refine Rg_nil (W_seq (W_region ?_))
  refine Rg_run rfl o_assignc ?_
  refine Rg_nil (W_seq (W_region ?_))
  refine Rg_run rfl (o_moveh (v := v1) rfl) ?_
  refine Rg_run rfl (o_assignh (v := v1) rfl) ?_
  refine Rg_run rfl o_assignc ?_
  refine Rg_nil (W_seq (W_region ?_))
  refine Rg_run rfl (o_fa Tryz.underlying24 rfl Tryz.sizeOf5 rfl) ?_
  refine Rg_run rfl (o_load1 Tryz.isAgg5 rfl (hb5.at.get 1 rfl)) ?_
  refine Rg_run rfl (o_remU (a := o.s.toNat) (b := 70) rfl rfl (by decide)) ?_
  refine Rg_run rfl (o_convS Tryz.underlying5 Tryz.underlying3 rfl (wrap_in (by unfold I64; omega))) ?_
  refine Rg_run rfl (o_assignh (v := .int _ _) rfl) ?_
  refine Rg_nil (W_seq (W_seq (W_region ?_)))
  refine Rg_run rfl (o_fa Tryz.underlying24 rfl Tryz.sizeOf5 rfl) ?_
  refine Rg_run rfl (o_load1 Tryz.isAgg5 rfl (hb5.at.get 0 rfl)) ?_
  refine Rg_run rfl (o_remU (a := o.k.toNat) (b := 5) rfl rfl (by decide)) ?_
  refine Rg_nil (W_block (W_seq (W_seq (W_region ?_))))
  refine Rg_run rfl (o_eql rfl rfl) ?_
  refine Rg_run rfl (o_assignh (v := .bool _) rfl) ?_
  refine Rg_nil ?_
  refine W_cond rfl (fun hc1 => ?_) (fun hc1 => ?_)
  · skip
    have hk : kindO o ≤ 1 := by unfold kindO; have := eq_of_beq hc1; omega
    refine W_skip ?_
    refine W_cond_true (congrArg Value.bool hc1) ?_
    refine W_seq (W_region ?_)
    refine Rg_run rfl o_assignc ?_
    refine Rg_run rfl o_assignc ?_
    refine Rg_nil (W_seq (W_region ?_))
    refine Rg_run rfl (o_moveh (v := v0) rfl) ?_
    refine Rg_run rfl (o_fa Tryz.underlying24 rfl Tryz.sizeOf3 rfl) ?_
    refine Rg_run rfl (o_load1 Tryz.isAgg3 rfl (hb5.at.get 2 rfl)) ?_
    refine Rg_enter rfl (o_call2 Tryz.call11 rfl rfl) (Ok.mono (sopen_ok _ _ _ hb0 hm o.u) ?_)
    rintro _ w4 ⟨⟨p47, rfl, hp47⟩, x5⟩
    have z6 := Bel.size x5
    replace hX := Bel.ex hX x5
    replace hb0 := hb0.ext x5
    replace hs := (hs.ext x5).top
    replace hb5 := hb5.ext x5
    refine Rg_run rfl (o_moveh (v := .tuple _) rfl) ?_
    refine Rg_run rfl (o_extract rfl rfl) ?_
    refine Rg_run rfl (o_extract rfl rfl) ?_
    refine Rg_run rfl (o_extract rfl rfl) ?_
    refine Rg_run rfl (o_assignh (v := p47) rfl) ?_
    refine Rg_run rfl (o_assignh (v := .int _ _) rfl) ?_
    refine Rg_run rfl (o_assignh (v := .int _ _) rfl) ?_
    refine Rg_nil (W_seq (W_region ?_))
    refine Rg_run rfl (o_moveh (v := v1) rfl) ?_
    refine Rg_run rfl (o_fa Tryz.underlying24 rfl Tryz.sizeOf3 rfl) ?_
    refine Rg_run rfl (o_load1 Tryz.isAgg3 rfl (hb5.at.get 2 rfl)) ?_
    refine Rg_enter rfl (o_call2 Tryz.call83 rfl rfl) (Ok.mono (r22open_ok _ _ m _ hs hm o.u) ?_)
    rintro _ w7 ⟨⟨u55, rfl, hr55⟩, x8⟩
    have z9 := Bel.size x8
    replace hX := Bel.ex hX x8
    replace hb0 := hb0.ext x8
    replace hs := (hs.ext x8).top
    replace hp47 := hp47.ext x8
    refine Rg_run rfl (o_moveh (v := .tuple _) rfl) ?_
    refine Rg_run rfl (o_extract rfl rfl) ?_
    refine Rg_run rfl (o_extract rfl rfl) ?_
    refine Rg_run rfl (o_extract rfl rfl) ?_
    refine Rg_run rfl (o_assignh (v := u55) rfl) ?_
    refine Rg_run rfl (o_assignh (v := .int _ _) rfl) ?_
    refine Rg_run rfl (o_assignh (v := .int _ _) rfl) ?_
    refine Rg_nil (W_seq (W_region ?_))
    refine Rg_run rfl (o_moveh (v := .int _ _) rfl) ?_
    refine Rg_run rfl (o_moveh (v := .int _ _) rfl) ?_
    refine Rg_run rfl (o_neq rfl rfl) ?_
    refine Rg_nil ?_
    refine W_cond_false (congrArg Value.bool (by simp)) ?_
    refine W_skip (W_seq (W_seq (W_region ?_)))
    refine (Decidable.em ((openR m o.u).2.2 = 0)).elim (fun hf => ?_) (fun hf => ?_)
    · skip
      refine Rg_run rfl (o_moveh (v := .int _ _) rfl) ?_
      obtain ⟨pb2, b2, hpe, hb2, hm2⟩ := hp47.1 hf
      subst hpe
      have hbk2 : BkIs w7 (.pointer (some ⟨pb2, 0, none⟩)) (openR m o.u).1 := hp47.1 hf
      refine Rg_run rfl (o_moveh (v := .int _ _) rfl) ?_
      refine Rg_run rfl (o_neq rfl rfl) ?_
      refine Rg_run rfl (o_moveh (v := .bool _) rfl) ?_
      refine Rg_on 3 98 rfl (congrArg Value.bool (by simp)) ?_
      refine Rg_run rfl (o_moveh (v := .pointer (some ⟨pb2, 0, none⟩)) rfl) ?_
      refine Rg_on 3 98 rfl (congrArg Value.bool (by simp)) ?_
      refine Rg_run rfl (o_peq Tryz.underlying26 rfl rfl) ?_
      refine Rg_on 3 98 rfl (congrArg Value.bool (by simp)) ?_
      refine Rg_run rfl (o_moveh (v := .int _ _) rfl) ?_
      refine Rg_on 3 98 rfl (congrArg Value.bool (by simp)) ?_
      refine Rg_run rfl (o_neq rfl rfl) ?_
      refine Rg_on 3 98 rfl (congrArg Value.bool (by simp)) ?_
      refine Rg_run rfl (o_bneq Tryz.underlying4 rfl rfl) ?_
      refine Rg_run rfl (o_pickF (v := .bool _) (congrArg Value.bool (by simp)) rfl) ?_
      refine Rg_run rfl (o_moveh (v := .bool _) rfl) ?_
      refine Rg_on 10 105 rfl (congrArg Value.bool (by simp [hf])) ?_
      refine Rg_run rfl (o_moveh (v := v0) rfl) ?_
      refine Rg_on 10 105 rfl (congrArg Value.bool (by simp [hf])) ?_
      refine Rg_run rfl (o_moveh (v := v1) rfl) ?_
      refine Rg_on 10 105 rfl (congrArg Value.bool (by simp [hf])) ?_
      refine Rg_enter rfl (o_call2 Tryz.call21 rfl rfl) (Ok.mono (lis_ok _ _ _ hb0 hm _ hs) ?_)
      rintro _ w10 ⟨rfl, x11⟩
      have z12 := Bel.size x11
      replace hX := Bel.ex hX x11
      replace hr55 := (hr55.ext x11).top
      replace hbk2 := hbk2.ext x11
      refine Rg_on 10 105 rfl (congrArg Value.bool (by simp [hf])) ?_
      refine Rg_run rfl (o_not rfl) ?_
      refine Rg_run rfl (o_pickF (v := .bool _) (congrArg Value.bool (by simp [hf])) rfl) ?_
      refine Rg_nil ?_
      refine W_cond_false rfl ?_
      refine W_skip (W_seq (W_seq (W_region ?_)))
      refine Rg_run rfl (o_moveh (v := .int _ _) rfl) ?_
      refine Rg_run rfl (o_neq rfl rfl) ?_
      refine Rg_nil ?_
      refine W_cond_false (congrArg Value.bool (by simp [hf])) ?_
      refine W_skip (W_seq (W_region ?_))
      refine Rg_run rfl (o_moveh (v := .pointer (some ⟨pb2, 0, none⟩)) rfl) ?_
      refine Rg_run rfl (o_moveh (v := u55) rfl) ?_
      refine Rg_run rfl (o_assignh (v := .pointer (some ⟨pb2, 0, none⟩)) rfl) ?_
      refine Rg_run rfl (o_assignh (v := u55) rfl) ?_
      refine Rg_run rfl o_assignc ?_
      refine Rg_nil (W_ret ?_)
      refine ⟨_, res_T (vs := [(.pointer (some ⟨pb2, 0, none⟩)), (u55), .bool _]) rfl ⟨rfl, rfl, rfl, trivial⟩ (by simp), ?_⟩
      have hst : (stepR m o).1 = (openR m o.u).1 := by rw [stepR, if_pos hk]
      rw [hst]
      exact ⟨⟨_, _, rfl, hbk2, hr55⟩, hX⟩
    refine Rg_run rfl (o_moveh (v := .int _ _) rfl) ?_
    obtain hpe := hp47.2 hf
    subst hpe
    refine Rg_run rfl (o_moveh (v := .int _ _) rfl) ?_
    refine Rg_run rfl (o_neq rfl rfl) ?_
    refine Rg_run rfl (o_moveh (v := .bool _) rfl) ?_
    refine Rg_on 3 98 rfl (congrArg Value.bool (by simp)) ?_
    refine Rg_run rfl (o_moveh (v := .pointer none) rfl) ?_
    refine Rg_on 3 98 rfl (congrArg Value.bool (by simp)) ?_
    refine Rg_run rfl (o_peq Tryz.underlying26 rfl rfl) ?_
    refine Rg_on 3 98 rfl (congrArg Value.bool (by simp)) ?_
    refine Rg_run rfl (o_moveh (v := .int _ _) rfl) ?_
    refine Rg_on 3 98 rfl (congrArg Value.bool (by simp)) ?_
    refine Rg_run rfl (o_neq rfl rfl) ?_
    refine Rg_on 3 98 rfl (congrArg Value.bool (by simp)) ?_
    refine Rg_run rfl (o_bneq Tryz.underlying4 rfl rfl) ?_
    refine Rg_run rfl (o_pickF (v := .bool _) (congrArg Value.bool (by simp)) rfl) ?_
    refine Rg_run rfl (o_moveh (v := .bool _) rfl) ?_
    refine Rg_on 10 105 rfl (congrArg Value.bool (by simp [hf])) ?_
    refine Rg_run rfl (o_moveh (v := v0) rfl) ?_
    refine Rg_on 10 105 rfl (congrArg Value.bool (by simp [hf])) ?_
    refine Rg_run rfl (o_moveh (v := v1) rfl) ?_
    refine Rg_on 10 105 rfl (congrArg Value.bool (by simp [hf])) ?_
    refine Rg_enter rfl (o_call2 Tryz.call21 rfl rfl) (Ok.mono (lis_ok _ _ _ hb0 hm _ hs) ?_)
    rintro _ w13 ⟨rfl, x14⟩
    have z15 := Bel.size x14
    replace hX := Bel.ex hX x14
    replace hb0 := hb0.ext x14
    replace hs := (hs.ext x14).top
    refine Rg_on 10 105 rfl (congrArg Value.bool (by simp [hf])) ?_
    refine Rg_run rfl (o_not rfl) ?_
    refine Rg_run rfl (o_pickF (v := .bool _) (congrArg Value.bool (by simp [hf])) rfl) ?_
    refine Rg_nil ?_
    refine W_cond_false rfl ?_
    refine W_skip (W_seq (W_seq (W_region ?_)))
    refine Rg_run rfl (o_moveh (v := .int _ _) rfl) ?_
    refine Rg_run rfl (o_neq rfl rfl) ?_
    refine Rg_nil ?_
    refine W_cond_true (congrArg Value.bool (by simp [hf])) ?_
    refine W_seq (W_region ?_)
    refine Rg_run rfl (o_moveh (v := v0) rfl) ?_
    refine Rg_run rfl (o_moveh (v := v1) rfl) ?_
    refine Rg_run rfl (o_assignh (v := v0) rfl) ?_
    refine Rg_run rfl (o_assignh (v := v1) rfl) ?_
    refine Rg_run rfl o_assignc ?_
    refine Rg_nil (W_ret ?_)
    refine ⟨_, res_T (vs := [(v0), (v1), .bool _]) rfl ⟨rfl, rfl, rfl, trivial⟩ (by simp), ?_⟩
    have hst : (stepR m o).1 = m := by rw [stepR, if_pos hk]; exact openR_err hf
    rw [hst]
    exact ⟨⟨_, _, rfl, hb0, hs⟩, hX⟩
  have hk0 : ¬ kindO o = 0 := by
    unfold kindO
    have h1 : ¬ ((o.k.toNat % 5 : Nat) : Int) = 0 := by simpa using hc1
    omega
  refine W_region ?_
  refine Rg_run rfl (o_eql rfl rfl) ?_
  refine Rg_run rfl (o_assignh (v := .bool _) rfl) ?_
  refine Rg_nil ?_
  refine W_cond rfl (fun hc8 => ?_) (fun hc8 => ?_)
  · skip
    have hk : kindO o ≤ 1 := by unfold kindO; have := eq_of_beq hc8; omega
    refine W_seq (W_region ?_)
    refine Rg_run rfl o_assignc ?_
    refine Rg_run rfl o_assignc ?_
    refine Rg_nil (W_seq (W_region ?_))
    refine Rg_run rfl (o_moveh (v := v0) rfl) ?_
    refine Rg_run rfl (o_fa Tryz.underlying24 rfl Tryz.sizeOf3 rfl) ?_
    refine Rg_run rfl (o_load1 Tryz.isAgg3 rfl (hb5.at.get 2 rfl)) ?_
    refine Rg_enter rfl (o_call2 Tryz.call11 rfl rfl) (Ok.mono (sopen_ok _ _ _ hb0 hm o.u) ?_)
    rintro _ w16 ⟨⟨p47, rfl, hp47⟩, x17⟩
    have z18 := Bel.size x17
    replace hX := Bel.ex hX x17
    replace hb0 := hb0.ext x17
    replace hs := (hs.ext x17).top
    replace hb5 := hb5.ext x17
    refine Rg_run rfl (o_moveh (v := .tuple _) rfl) ?_
    refine Rg_run rfl (o_extract rfl rfl) ?_
    refine Rg_run rfl (o_extract rfl rfl) ?_
    refine Rg_run rfl (o_extract rfl rfl) ?_
    refine Rg_run rfl (o_assignh (v := p47) rfl) ?_
    refine Rg_run rfl (o_assignh (v := .int _ _) rfl) ?_
    refine Rg_run rfl (o_assignh (v := .int _ _) rfl) ?_
    refine Rg_nil (W_seq (W_region ?_))
    refine Rg_run rfl (o_moveh (v := v1) rfl) ?_
    refine Rg_run rfl (o_fa Tryz.underlying24 rfl Tryz.sizeOf3 rfl) ?_
    refine Rg_run rfl (o_load1 Tryz.isAgg3 rfl (hb5.at.get 2 rfl)) ?_
    refine Rg_enter rfl (o_call2 Tryz.call83 rfl rfl) (Ok.mono (r22open_ok _ _ m _ hs hm o.u) ?_)
    rintro _ w19 ⟨⟨u55, rfl, hr55⟩, x20⟩
    have z21 := Bel.size x20
    replace hX := Bel.ex hX x20
    replace hb0 := hb0.ext x20
    replace hs := (hs.ext x20).top
    replace hp47 := hp47.ext x20
    refine Rg_run rfl (o_moveh (v := .tuple _) rfl) ?_
    refine Rg_run rfl (o_extract rfl rfl) ?_
    refine Rg_run rfl (o_extract rfl rfl) ?_
    refine Rg_run rfl (o_extract rfl rfl) ?_
    refine Rg_run rfl (o_assignh (v := u55) rfl) ?_
    refine Rg_run rfl (o_assignh (v := .int _ _) rfl) ?_
    refine Rg_run rfl (o_assignh (v := .int _ _) rfl) ?_
    refine Rg_nil (W_seq (W_region ?_))
    refine Rg_run rfl (o_moveh (v := .int _ _) rfl) ?_
    refine Rg_run rfl (o_moveh (v := .int _ _) rfl) ?_
    refine Rg_run rfl (o_neq rfl rfl) ?_
    refine Rg_nil ?_
    refine W_cond_false (congrArg Value.bool (by simp)) ?_
    refine W_skip (W_seq (W_seq (W_region ?_)))
    refine (Decidable.em ((openR m o.u).2.2 = 0)).elim (fun hf => ?_) (fun hf => ?_)
    · skip
      refine Rg_run rfl (o_moveh (v := .int _ _) rfl) ?_
      obtain ⟨pb2, b2, hpe, hb2, hm2⟩ := hp47.1 hf
      subst hpe
      have hbk2 : BkIs w19 (.pointer (some ⟨pb2, 0, none⟩)) (openR m o.u).1 := hp47.1 hf
      refine Rg_run rfl (o_moveh (v := .int _ _) rfl) ?_
      refine Rg_run rfl (o_neq rfl rfl) ?_
      refine Rg_run rfl (o_moveh (v := .bool _) rfl) ?_
      refine Rg_on 3 98 rfl (congrArg Value.bool (by simp)) ?_
      refine Rg_run rfl (o_moveh (v := .pointer (some ⟨pb2, 0, none⟩)) rfl) ?_
      refine Rg_on 3 98 rfl (congrArg Value.bool (by simp)) ?_
      refine Rg_run rfl (o_peq Tryz.underlying26 rfl rfl) ?_
      refine Rg_on 3 98 rfl (congrArg Value.bool (by simp)) ?_
      refine Rg_run rfl (o_moveh (v := .int _ _) rfl) ?_
      refine Rg_on 3 98 rfl (congrArg Value.bool (by simp)) ?_
      refine Rg_run rfl (o_neq rfl rfl) ?_
      refine Rg_on 3 98 rfl (congrArg Value.bool (by simp)) ?_
      refine Rg_run rfl (o_bneq Tryz.underlying4 rfl rfl) ?_
      refine Rg_run rfl (o_pickF (v := .bool _) (congrArg Value.bool (by simp)) rfl) ?_
      refine Rg_run rfl (o_moveh (v := .bool _) rfl) ?_
      refine Rg_on 10 105 rfl (congrArg Value.bool (by simp [hf])) ?_
      refine Rg_run rfl (o_moveh (v := v0) rfl) ?_
      refine Rg_on 10 105 rfl (congrArg Value.bool (by simp [hf])) ?_
      refine Rg_run rfl (o_moveh (v := v1) rfl) ?_
      refine Rg_on 10 105 rfl (congrArg Value.bool (by simp [hf])) ?_
      refine Rg_enter rfl (o_call2 Tryz.call21 rfl rfl) (Ok.mono (lis_ok _ _ _ hb0 hm _ hs) ?_)
      rintro _ w22 ⟨rfl, x23⟩
      have z24 := Bel.size x23
      replace hX := Bel.ex hX x23
      replace hr55 := (hr55.ext x23).top
      replace hbk2 := hbk2.ext x23
      refine Rg_on 10 105 rfl (congrArg Value.bool (by simp [hf])) ?_
      refine Rg_run rfl (o_not rfl) ?_
      refine Rg_run rfl (o_pickF (v := .bool _) (congrArg Value.bool (by simp [hf])) rfl) ?_
      refine Rg_nil ?_
      refine W_cond_false rfl ?_
      refine W_skip (W_seq (W_seq (W_region ?_)))
      refine Rg_run rfl (o_moveh (v := .int _ _) rfl) ?_
      refine Rg_run rfl (o_neq rfl rfl) ?_
      refine Rg_nil ?_
      refine W_cond_false (congrArg Value.bool (by simp [hf])) ?_
      refine W_skip (W_seq (W_region ?_))
      refine Rg_run rfl (o_moveh (v := .pointer (some ⟨pb2, 0, none⟩)) rfl) ?_
      refine Rg_run rfl (o_moveh (v := u55) rfl) ?_
      refine Rg_run rfl (o_assignh (v := .pointer (some ⟨pb2, 0, none⟩)) rfl) ?_
      refine Rg_run rfl (o_assignh (v := u55) rfl) ?_
      refine Rg_run rfl o_assignc ?_
      refine Rg_nil (W_ret ?_)
      refine ⟨_, res_T (vs := [(.pointer (some ⟨pb2, 0, none⟩)), (u55), .bool _]) rfl ⟨rfl, rfl, rfl, trivial⟩ (by simp), ?_⟩
      have hst : (stepR m o).1 = (openR m o.u).1 := by rw [stepR, if_pos hk]
      rw [hst]
      exact ⟨⟨_, _, rfl, hbk2, hr55⟩, hX⟩
    refine Rg_run rfl (o_moveh (v := .int _ _) rfl) ?_
    obtain hpe := hp47.2 hf
    subst hpe
    refine Rg_run rfl (o_moveh (v := .int _ _) rfl) ?_
    refine Rg_run rfl (o_neq rfl rfl) ?_
    refine Rg_run rfl (o_moveh (v := .bool _) rfl) ?_
    refine Rg_on 3 98 rfl (congrArg Value.bool (by simp)) ?_
    refine Rg_run rfl (o_moveh (v := .pointer none) rfl) ?_
    refine Rg_on 3 98 rfl (congrArg Value.bool (by simp)) ?_
    refine Rg_run rfl (o_peq Tryz.underlying26 rfl rfl) ?_
    refine Rg_on 3 98 rfl (congrArg Value.bool (by simp)) ?_
    refine Rg_run rfl (o_moveh (v := .int _ _) rfl) ?_
    refine Rg_on 3 98 rfl (congrArg Value.bool (by simp)) ?_
    refine Rg_run rfl (o_neq rfl rfl) ?_
    refine Rg_on 3 98 rfl (congrArg Value.bool (by simp)) ?_
    refine Rg_run rfl (o_bneq Tryz.underlying4 rfl rfl) ?_
    refine Rg_run rfl (o_pickF (v := .bool _) (congrArg Value.bool (by simp)) rfl) ?_
    refine Rg_run rfl (o_moveh (v := .bool _) rfl) ?_
    refine Rg_on 10 105 rfl (congrArg Value.bool (by simp [hf])) ?_
    refine Rg_run rfl (o_moveh (v := v0) rfl) ?_
    refine Rg_on 10 105 rfl (congrArg Value.bool (by simp [hf])) ?_
    refine Rg_run rfl (o_moveh (v := v1) rfl) ?_
    refine Rg_on 10 105 rfl (congrArg Value.bool (by simp [hf])) ?_
    refine Rg_enter rfl (o_call2 Tryz.call21 rfl rfl) (Ok.mono (lis_ok _ _ _ hb0 hm _ hs) ?_)
    rintro _ w25 ⟨rfl, x26⟩
    have z27 := Bel.size x26
    replace hX := Bel.ex hX x26
    replace hb0 := hb0.ext x26
    replace hs := (hs.ext x26).top
    refine Rg_on 10 105 rfl (congrArg Value.bool (by simp [hf])) ?_
    refine Rg_run rfl (o_not rfl) ?_
    refine Rg_run rfl (o_pickF (v := .bool _) (congrArg Value.bool (by simp [hf])) rfl) ?_
    refine Rg_nil ?_
    refine W_cond_false rfl ?_
    refine W_skip (W_seq (W_seq (W_region ?_)))
    refine Rg_run rfl (o_moveh (v := .int _ _) rfl) ?_
    refine Rg_run rfl (o_neq rfl rfl) ?_
    refine Rg_nil ?_
    refine W_cond_true (congrArg Value.bool (by simp [hf])) ?_
    refine W_seq (W_region ?_)
    refine Rg_run rfl (o_moveh (v := v0) rfl) ?_
    refine Rg_run rfl (o_moveh (v := v1) rfl) ?_
    refine Rg_run rfl (o_assignh (v := v0) rfl) ?_
    refine Rg_run rfl (o_assignh (v := v1) rfl) ?_
    refine Rg_run rfl o_assignc ?_
    refine Rg_nil (W_ret ?_)
    refine ⟨_, res_T (vs := [(v0), (v1), .bool _]) rfl ⟨rfl, rfl, rfl, trivial⟩ (by simp), ?_⟩
    have hst : (stepR m o).1 = m := by rw [stepR, if_pos hk]; exact openR_err hf
    rw [hst]
    exact ⟨⟨_, _, rfl, hb0, hs⟩, hX⟩
  have hk1 : ¬ kindO o ≤ 1 := by
    have h1 : ¬ kindO o = 1 := by
      unfold kindO
      have h1 : ¬ ((o.k.toNat % 5 : Nat) : Int) = 1 := by simpa using hc8
      omega
    omega
  refine W_seq (W_region ?_)
  refine Rg_run rfl (o_eql rfl rfl) ?_
  refine Rg_run rfl (o_assignh (v := .bool _) rfl) ?_
  refine Rg_nil ?_
  refine W_cond rfl (fun hc14 => ?_) (fun hc14 => ?_)
  · skip
    have hk2 : kindO o = 2 := by unfold kindO; have := eq_of_beq hc14; omega
    refine W_seq (W_region ?_)
    refine Rg_run rfl (o_moveh (v := v0) rfl) ?_
    refine Rg_run rfl (o_moveh (v := .int _ _) rfl) ?_
    refine Rg_enter rfl (o_call2 Tryz.call13 rfl rfl) (Ok.mono (sclose_ok _ _ _ hb0 hm (numO o) hnr) ?_)
    rintro _ w28 ⟨⟨p68, rfl, hp68⟩, x29⟩
    have z30 := Bel.size x29
    replace hX := Bel.ex hX x29
    replace hb0 := hb0.ext x29
    replace hs := (hs.ext x29).top
    refine Rg_run rfl (o_moveh (v := .tuple _) rfl) ?_
    refine Rg_run rfl (o_extract rfl rfl) ?_
    refine Rg_run rfl (o_extract rfl rfl) ?_
    refine Rg_run rfl (o_assignh (v := p68) rfl) ?_
    refine Rg_run rfl (o_assignh (v := .int _ _) rfl) ?_
    refine Rg_nil (W_region ?_)
    refine Rg_run rfl (o_moveh (v := v1) rfl) ?_
    refine Rg_run rfl (o_moveh (v := .int _ _) rfl) ?_
    refine Rg_enter rfl (o_call2 Tryz.call84 rfl rfl) (Ok.mono (r22close_ok _ _ m _ hs hm (numO o)) ?_)
    rintro _ w31 ⟨⟨u74, rfl, hr74⟩, x32⟩
    have z33 := Bel.size x32
    replace hX := Bel.ex hX x32
    replace hb0 := hb0.ext x32
    replace hs := (hs.ext x32).top
    replace hp68 := hp68.ext x32
    refine Rg_run rfl (o_moveh (v := .tuple _) rfl) ?_
    refine Rg_run rfl (o_extract rfl rfl) ?_
    refine Rg_run rfl (o_extract rfl rfl) ?_
    refine Rg_run rfl (o_assignh (v := u74) rfl) ?_
    refine Rg_run rfl (o_assignh (v := .int _ _) rfl) ?_
    refine Rg_nil (W_seq (W_seq (W_region ?_)))
    refine (Decidable.em ((closeR m (numO o)).2 = 0)).elim (fun hf => ?_) (fun hf => ?_)
    · skip
      refine Rg_run rfl (o_moveh (v := .int _ _) rfl) ?_
      obtain ⟨pb2, b2, hpe, hb2, hm2⟩ := hp68.1 hf
      subst hpe
      have hbk2 : BkIs w31 (.pointer (some ⟨pb2, 0, none⟩)) (closeR m (numO o)).1 := hp68.1 hf
      refine Rg_run rfl (o_moveh (v := .int _ _) rfl) ?_
      refine Rg_run rfl (o_neq rfl rfl) ?_
      refine Rg_run rfl (o_moveh (v := .bool _) rfl) ?_
      refine Rg_on 3 98 rfl (congrArg Value.bool (by simp)) ?_
      refine Rg_run rfl (o_moveh (v := .pointer (some ⟨pb2, 0, none⟩)) rfl) ?_
      refine Rg_on 3 98 rfl (congrArg Value.bool (by simp)) ?_
      refine Rg_run rfl (o_peq Tryz.underlying26 rfl rfl) ?_
      refine Rg_on 3 98 rfl (congrArg Value.bool (by simp)) ?_
      refine Rg_run rfl (o_moveh (v := .int _ _) rfl) ?_
      refine Rg_on 3 98 rfl (congrArg Value.bool (by simp)) ?_
      refine Rg_run rfl (o_neq rfl rfl) ?_
      refine Rg_on 3 98 rfl (congrArg Value.bool (by simp)) ?_
      refine Rg_run rfl (o_bneq Tryz.underlying4 rfl rfl) ?_
      refine Rg_run rfl (o_pickF (v := .bool _) (congrArg Value.bool (by simp)) rfl) ?_
      refine Rg_run rfl (o_moveh (v := .bool _) rfl) ?_
      refine Rg_on 10 105 rfl (congrArg Value.bool (by simp [hf])) ?_
      refine Rg_run rfl (o_moveh (v := v0) rfl) ?_
      refine Rg_on 10 105 rfl (congrArg Value.bool (by simp [hf])) ?_
      refine Rg_run rfl (o_moveh (v := v1) rfl) ?_
      refine Rg_on 10 105 rfl (congrArg Value.bool (by simp [hf])) ?_
      refine Rg_enter rfl (o_call2 Tryz.call21 rfl rfl) (Ok.mono (lis_ok _ _ _ hb0 hm _ hs) ?_)
      rintro _ w34 ⟨rfl, x35⟩
      have z36 := Bel.size x35
      replace hX := Bel.ex hX x35
      replace hr74 := (hr74.ext x35).top
      replace hbk2 := hbk2.ext x35
      refine Rg_on 10 105 rfl (congrArg Value.bool (by simp [hf])) ?_
      refine Rg_run rfl (o_not rfl) ?_
      refine Rg_run rfl (o_pickF (v := .bool _) (congrArg Value.bool (by simp [hf])) rfl) ?_
      refine Rg_nil ?_
      refine W_cond_false rfl ?_
      refine W_skip (W_seq (W_seq (W_region ?_)))
      refine Rg_run rfl (o_moveh (v := .int _ _) rfl) ?_
      refine Rg_run rfl (o_neq rfl rfl) ?_
      refine Rg_nil ?_
      refine W_cond_false (congrArg Value.bool (by simp [hf])) ?_
      refine W_skip (W_seq (W_region ?_))
      refine Rg_run rfl (o_moveh (v := .pointer (some ⟨pb2, 0, none⟩)) rfl) ?_
      refine Rg_run rfl (o_moveh (v := u74) rfl) ?_
      refine Rg_run rfl (o_assignh (v := .pointer (some ⟨pb2, 0, none⟩)) rfl) ?_
      refine Rg_run rfl (o_assignh (v := u74) rfl) ?_
      refine Rg_run rfl o_assignc ?_
      refine Rg_nil (W_ret ?_)
      refine ⟨_, res_T (vs := [(.pointer (some ⟨pb2, 0, none⟩)), (u74), .bool _]) rfl ⟨rfl, rfl, rfl, trivial⟩ (by simp), ?_⟩
      have hst : (stepR m o).1 = (closeR m (numO o)).1 := by rw [stepR, if_neg hk1, if_pos hk2]
      rw [hst]
      exact ⟨⟨_, _, rfl, hbk2, hr74⟩, hX⟩
    refine Rg_run rfl (o_moveh (v := .int _ _) rfl) ?_
    obtain hpe := hp68.2 hf
    subst hpe
    refine Rg_run rfl (o_moveh (v := .int _ _) rfl) ?_
    refine Rg_run rfl (o_neq rfl rfl) ?_
    refine Rg_run rfl (o_moveh (v := .bool _) rfl) ?_
    refine Rg_on 3 98 rfl (congrArg Value.bool (by simp)) ?_
    refine Rg_run rfl (o_moveh (v := .pointer none) rfl) ?_
    refine Rg_on 3 98 rfl (congrArg Value.bool (by simp)) ?_
    refine Rg_run rfl (o_peq Tryz.underlying26 rfl rfl) ?_
    refine Rg_on 3 98 rfl (congrArg Value.bool (by simp)) ?_
    refine Rg_run rfl (o_moveh (v := .int _ _) rfl) ?_
    refine Rg_on 3 98 rfl (congrArg Value.bool (by simp)) ?_
    refine Rg_run rfl (o_neq rfl rfl) ?_
    refine Rg_on 3 98 rfl (congrArg Value.bool (by simp)) ?_
    refine Rg_run rfl (o_bneq Tryz.underlying4 rfl rfl) ?_
    refine Rg_run rfl (o_pickF (v := .bool _) (congrArg Value.bool (by simp)) rfl) ?_
    refine Rg_run rfl (o_moveh (v := .bool _) rfl) ?_
    refine Rg_on 10 105 rfl (congrArg Value.bool (by simp [hf])) ?_
    refine Rg_run rfl (o_moveh (v := v0) rfl) ?_
    refine Rg_on 10 105 rfl (congrArg Value.bool (by simp [hf])) ?_
    refine Rg_run rfl (o_moveh (v := v1) rfl) ?_
    refine Rg_on 10 105 rfl (congrArg Value.bool (by simp [hf])) ?_
    refine Rg_enter rfl (o_call2 Tryz.call21 rfl rfl) (Ok.mono (lis_ok _ _ _ hb0 hm _ hs) ?_)
    rintro _ w37 ⟨rfl, x38⟩
    have z39 := Bel.size x38
    replace hX := Bel.ex hX x38
    replace hb0 := hb0.ext x38
    replace hs := (hs.ext x38).top
    refine Rg_on 10 105 rfl (congrArg Value.bool (by simp [hf])) ?_
    refine Rg_run rfl (o_not rfl) ?_
    refine Rg_run rfl (o_pickF (v := .bool _) (congrArg Value.bool (by simp [hf])) rfl) ?_
    refine Rg_nil ?_
    refine W_cond_false rfl ?_
    refine W_skip (W_seq (W_seq (W_region ?_)))
    refine Rg_run rfl (o_moveh (v := .int _ _) rfl) ?_
    refine Rg_run rfl (o_neq rfl rfl) ?_
    refine Rg_nil ?_
    refine W_cond_true (congrArg Value.bool (by simp [hf])) ?_
    refine W_seq (W_region ?_)
    refine Rg_run rfl (o_moveh (v := v0) rfl) ?_
    refine Rg_run rfl (o_moveh (v := v1) rfl) ?_
    refine Rg_run rfl (o_assignh (v := v0) rfl) ?_
    refine Rg_run rfl (o_assignh (v := v1) rfl) ?_
    refine Rg_run rfl o_assignc ?_
    refine Rg_nil (W_ret ?_)
    refine ⟨_, res_T (vs := [(v0), (v1), .bool _]) rfl ⟨rfl, rfl, rfl, trivial⟩ (by simp), ?_⟩
    have hst : (stepR m o).1 = m := by rw [stepR, if_neg hk1, if_pos hk2]; exact closeR_err hf
    rw [hst]
    exact ⟨⟨_, _, rfl, hb0, hs⟩, hX⟩
  have hk2 : ¬ kindO o = 2 := by
    unfold kindO
    have h1 : ¬ ((o.k.toNat % 5 : Nat) : Int) = 2 := by simpa using hc14
    omega
  refine W_seq (W_region ?_)
  refine Rg_run rfl (o_eql rfl rfl) ?_
  refine Rg_run rfl (o_assignh (v := .bool _) rfl) ?_
  refine Rg_nil ?_
  refine W_cond rfl (fun hc19 => ?_) (fun hc19 => ?_)
  · skip
    have hk3 : kindO o = 3 := by unfold kindO; have := eq_of_beq hc19; omega
    refine W_seq (W_region ?_)
    refine Rg_run rfl (o_moveh (v := v0) rfl) ?_
    refine Rg_run rfl (o_moveh (v := .int _ _) rfl) ?_
    refine Rg_run rfl (o_fa Tryz.underlying24 rfl Tryz.sizeOf3 rfl) ?_
    refine Rg_run rfl (o_load1 Tryz.isAgg3 rfl (hb5.at.get 3 rfl)) ?_
    refine Rg_enter rfl (o_call3 Tryz.call14 rfl rfl rfl) (Ok.mono (sact_ok _ _ _ hb0 hm (numO o) o.r hnr hor) ?_)
    rintro _ w40 ⟨⟨p84, rfl, hp84⟩, x41⟩
    have z42 := Bel.size x41
    replace hX := Bel.ex hX x41
    replace hb0 := hb0.ext x41
    replace hs := (hs.ext x41).top
    replace hb5 := hb5.ext x41
    refine Rg_run rfl (o_moveh (v := .tuple _) rfl) ?_
    refine Rg_run rfl (o_extract rfl rfl) ?_
    refine Rg_run rfl (o_extract rfl rfl) ?_
    refine Rg_run rfl (o_assignh (v := p84) rfl) ?_
    refine Rg_run rfl (o_assignh (v := .int _ _) rfl) ?_
    refine Rg_nil (W_region ?_)
    refine Rg_run rfl (o_moveh (v := v1) rfl) ?_
    refine Rg_run rfl (o_moveh (v := .int _ _) rfl) ?_
    refine Rg_run rfl (o_fa Tryz.underlying24 rfl Tryz.sizeOf3 rfl) ?_
    refine Rg_run rfl (o_load1 Tryz.isAgg3 rfl (hb5.at.get 3 rfl)) ?_
    refine Rg_enter rfl (o_call4 Tryz.call85 rfl rfl rfl rfl) (Ok.mono (r22set_ok _ _ m _ hs hm (numO o) o.r true) ?_)
    rintro _ w43 ⟨⟨u92, rfl, hr92⟩, x44⟩
    have z45 := Bel.size x44
    replace hX := Bel.ex hX x44
    replace hb0 := hb0.ext x44
    replace hs := (hs.ext x44).top
    replace hp84 := hp84.ext x44
    refine Rg_run rfl (o_moveh (v := .tuple _) rfl) ?_
    refine Rg_run rfl (o_extract rfl rfl) ?_
    refine Rg_run rfl (o_extract rfl rfl) ?_
    refine Rg_run rfl (o_assignh (v := u92) rfl) ?_
    refine Rg_run rfl (o_assignh (v := .int _ _) rfl) ?_
    refine Rg_nil (W_seq (W_seq (W_region ?_)))
    refine (Decidable.em ((setR m (numO o) o.r true).2 = 0)).elim (fun hf => ?_) (fun hf => ?_)
    · skip
      refine Rg_run rfl (o_moveh (v := .int _ _) rfl) ?_
      obtain ⟨pb2, b2, hpe, hb2, hm2⟩ := hp84.1 hf
      subst hpe
      have hbk2 : BkIs w43 (.pointer (some ⟨pb2, 0, none⟩)) (setR m (numO o) o.r true).1 := hp84.1 hf
      refine Rg_run rfl (o_moveh (v := .int _ _) rfl) ?_
      refine Rg_run rfl (o_neq rfl rfl) ?_
      refine Rg_run rfl (o_moveh (v := .bool _) rfl) ?_
      refine Rg_on 3 98 rfl (congrArg Value.bool (by simp)) ?_
      refine Rg_run rfl (o_moveh (v := .pointer (some ⟨pb2, 0, none⟩)) rfl) ?_
      refine Rg_on 3 98 rfl (congrArg Value.bool (by simp)) ?_
      refine Rg_run rfl (o_peq Tryz.underlying26 rfl rfl) ?_
      refine Rg_on 3 98 rfl (congrArg Value.bool (by simp)) ?_
      refine Rg_run rfl (o_moveh (v := .int _ _) rfl) ?_
      refine Rg_on 3 98 rfl (congrArg Value.bool (by simp)) ?_
      refine Rg_run rfl (o_neq rfl rfl) ?_
      refine Rg_on 3 98 rfl (congrArg Value.bool (by simp)) ?_
      refine Rg_run rfl (o_bneq Tryz.underlying4 rfl rfl) ?_
      refine Rg_run rfl (o_pickF (v := .bool _) (congrArg Value.bool (by simp)) rfl) ?_
      refine Rg_run rfl (o_moveh (v := .bool _) rfl) ?_
      refine Rg_on 10 105 rfl (congrArg Value.bool (by simp [hf])) ?_
      refine Rg_run rfl (o_moveh (v := v0) rfl) ?_
      refine Rg_on 10 105 rfl (congrArg Value.bool (by simp [hf])) ?_
      refine Rg_run rfl (o_moveh (v := v1) rfl) ?_
      refine Rg_on 10 105 rfl (congrArg Value.bool (by simp [hf])) ?_
      refine Rg_enter rfl (o_call2 Tryz.call21 rfl rfl) (Ok.mono (lis_ok _ _ _ hb0 hm _ hs) ?_)
      rintro _ w46 ⟨rfl, x47⟩
      have z48 := Bel.size x47
      replace hX := Bel.ex hX x47
      replace hr92 := (hr92.ext x47).top
      replace hbk2 := hbk2.ext x47
      refine Rg_on 10 105 rfl (congrArg Value.bool (by simp [hf])) ?_
      refine Rg_run rfl (o_not rfl) ?_
      refine Rg_run rfl (o_pickF (v := .bool _) (congrArg Value.bool (by simp [hf])) rfl) ?_
      refine Rg_nil ?_
      refine W_cond_false rfl ?_
      refine W_skip (W_seq (W_seq (W_region ?_)))
      refine Rg_run rfl (o_moveh (v := .int _ _) rfl) ?_
      refine Rg_run rfl (o_neq rfl rfl) ?_
      refine Rg_nil ?_
      refine W_cond_false (congrArg Value.bool (by simp [hf])) ?_
      refine W_skip (W_seq (W_region ?_))
      refine Rg_run rfl (o_moveh (v := .pointer (some ⟨pb2, 0, none⟩)) rfl) ?_
      refine Rg_run rfl (o_moveh (v := u92) rfl) ?_
      refine Rg_run rfl (o_assignh (v := .pointer (some ⟨pb2, 0, none⟩)) rfl) ?_
      refine Rg_run rfl (o_assignh (v := u92) rfl) ?_
      refine Rg_run rfl o_assignc ?_
      refine Rg_nil (W_ret ?_)
      refine ⟨_, res_T (vs := [(.pointer (some ⟨pb2, 0, none⟩)), (u92), .bool _]) rfl ⟨rfl, rfl, rfl, trivial⟩ (by simp), ?_⟩
      have hst : (stepR m o).1 = (setR m (numO o) o.r true).1 := by rw [stepR, if_neg hk1, if_neg hk2, if_pos hk3]
      rw [hst]
      exact ⟨⟨_, _, rfl, hbk2, hr92⟩, hX⟩
    refine Rg_run rfl (o_moveh (v := .int _ _) rfl) ?_
    obtain hpe := hp84.2 hf
    subst hpe
    refine Rg_run rfl (o_moveh (v := .int _ _) rfl) ?_
    refine Rg_run rfl (o_neq rfl rfl) ?_
    refine Rg_run rfl (o_moveh (v := .bool _) rfl) ?_
    refine Rg_on 3 98 rfl (congrArg Value.bool (by simp)) ?_
    refine Rg_run rfl (o_moveh (v := .pointer none) rfl) ?_
    refine Rg_on 3 98 rfl (congrArg Value.bool (by simp)) ?_
    refine Rg_run rfl (o_peq Tryz.underlying26 rfl rfl) ?_
    refine Rg_on 3 98 rfl (congrArg Value.bool (by simp)) ?_
    refine Rg_run rfl (o_moveh (v := .int _ _) rfl) ?_
    refine Rg_on 3 98 rfl (congrArg Value.bool (by simp)) ?_
    refine Rg_run rfl (o_neq rfl rfl) ?_
    refine Rg_on 3 98 rfl (congrArg Value.bool (by simp)) ?_
    refine Rg_run rfl (o_bneq Tryz.underlying4 rfl rfl) ?_
    refine Rg_run rfl (o_pickF (v := .bool _) (congrArg Value.bool (by simp)) rfl) ?_
    refine Rg_run rfl (o_moveh (v := .bool _) rfl) ?_
    refine Rg_on 10 105 rfl (congrArg Value.bool (by simp [hf])) ?_
    refine Rg_run rfl (o_moveh (v := v0) rfl) ?_
    refine Rg_on 10 105 rfl (congrArg Value.bool (by simp [hf])) ?_
    refine Rg_run rfl (o_moveh (v := v1) rfl) ?_
    refine Rg_on 10 105 rfl (congrArg Value.bool (by simp [hf])) ?_
    refine Rg_enter rfl (o_call2 Tryz.call21 rfl rfl) (Ok.mono (lis_ok _ _ _ hb0 hm _ hs) ?_)
    rintro _ w49 ⟨rfl, x50⟩
    have z51 := Bel.size x50
    replace hX := Bel.ex hX x50
    replace hb0 := hb0.ext x50
    replace hs := (hs.ext x50).top
    refine Rg_on 10 105 rfl (congrArg Value.bool (by simp [hf])) ?_
    refine Rg_run rfl (o_not rfl) ?_
    refine Rg_run rfl (o_pickF (v := .bool _) (congrArg Value.bool (by simp [hf])) rfl) ?_
    refine Rg_nil ?_
    refine W_cond_false rfl ?_
    refine W_skip (W_seq (W_seq (W_region ?_)))
    refine Rg_run rfl (o_moveh (v := .int _ _) rfl) ?_
    refine Rg_run rfl (o_neq rfl rfl) ?_
    refine Rg_nil ?_
    refine W_cond_true (congrArg Value.bool (by simp [hf])) ?_
    refine W_seq (W_region ?_)
    refine Rg_run rfl (o_moveh (v := v0) rfl) ?_
    refine Rg_run rfl (o_moveh (v := v1) rfl) ?_
    refine Rg_run rfl (o_assignh (v := v0) rfl) ?_
    refine Rg_run rfl (o_assignh (v := v1) rfl) ?_
    refine Rg_run rfl o_assignc ?_
    refine Rg_nil (W_ret ?_)
    refine ⟨_, res_T (vs := [(v0), (v1), .bool _]) rfl ⟨rfl, rfl, rfl, trivial⟩ (by simp), ?_⟩
    have hst : (stepR m o).1 = m := by rw [stepR, if_neg hk1, if_neg hk2, if_pos hk3]; exact setR_err hf
    rw [hst]
    exact ⟨⟨_, _, rfl, hb0, hs⟩, hX⟩
  have hk3 : ¬ kindO o = 3 := by
    unfold kindO
    have h1 : ¬ ((o.k.toNat % 5 : Nat) : Int) = 3 := by simpa using hc19
    omega
  refine W_seq (W_region ?_)
  refine Rg_run rfl (o_moveh (v := v0) rfl) ?_
  refine Rg_run rfl (o_moveh (v := .int _ _) rfl) ?_
  refine Rg_run rfl (o_fa Tryz.underlying24 rfl Tryz.sizeOf3 rfl) ?_
  refine Rg_run rfl (o_load1 Tryz.isAgg3 rfl (hb5.at.get 3 rfl)) ?_
  refine Rg_enter rfl (o_call3 Tryz.call15 rfl rfl rfl) (Ok.mono (sdeact_ok _ _ _ hb0 hm (numO o) o.r hnr hor) ?_)
  rintro _ w52 ⟨⟨p29, rfl, hp29⟩, x53⟩
  have z54 := Bel.size x53
  replace hX := Bel.ex hX x53
  replace hb0 := hb0.ext x53
  replace hs := (hs.ext x53).top
  replace hb5 := hb5.ext x53
  refine Rg_run rfl (o_moveh (v := .tuple _) rfl) ?_
  refine Rg_run rfl (o_extract rfl rfl) ?_
  refine Rg_run rfl (o_extract rfl rfl) ?_
  refine Rg_run rfl (o_assignh (v := p29) rfl) ?_
  refine Rg_run rfl (o_assignh (v := .int _ _) rfl) ?_
  refine Rg_nil (W_region ?_)
  refine Rg_run rfl (o_moveh (v := v1) rfl) ?_
  refine Rg_run rfl (o_moveh (v := .int _ _) rfl) ?_
  refine Rg_run rfl (o_fa Tryz.underlying24 rfl Tryz.sizeOf3 rfl) ?_
  refine Rg_run rfl (o_load1 Tryz.isAgg3 rfl (hb5.at.get 3 rfl)) ?_
  refine Rg_enter rfl (o_call4 Tryz.call85 rfl rfl rfl rfl) (Ok.mono (r22set_ok _ _ m _ hs hm (numO o) o.r false) ?_)
  rintro _ w55 ⟨⟨u37, rfl, hr37⟩, x56⟩
  have z57 := Bel.size x56
  replace hX := Bel.ex hX x56
  replace hb0 := hb0.ext x56
  replace hs := (hs.ext x56).top
  replace hp29 := hp29.ext x56
  refine Rg_run rfl (o_moveh (v := .tuple _) rfl) ?_
  refine Rg_run rfl (o_extract rfl rfl) ?_
  refine Rg_run rfl (o_extract rfl rfl) ?_
  refine Rg_run rfl (o_assignh (v := u37) rfl) ?_
  refine Rg_run rfl (o_assignh (v := .int _ _) rfl) ?_
  refine Rg_nil (W_seq (W_seq (W_region ?_)))
  refine (Decidable.em ((setR m (numO o) o.r false).2 = 0)).elim (fun hf => ?_) (fun hf => ?_)
  · skip
    refine Rg_run rfl (o_moveh (v := .int _ _) rfl) ?_
    obtain ⟨pb2, b2, hpe, hb2, hm2⟩ := hp29.1 hf
    subst hpe
    have hbk2 : BkIs w55 (.pointer (some ⟨pb2, 0, none⟩)) (setR m (numO o) o.r false).1 := hp29.1 hf
    refine Rg_run rfl (o_moveh (v := .int _ _) rfl) ?_
    refine Rg_run rfl (o_neq rfl rfl) ?_
    refine Rg_run rfl (o_moveh (v := .bool _) rfl) ?_
    refine Rg_on 3 98 rfl (congrArg Value.bool (by simp)) ?_
    refine Rg_run rfl (o_moveh (v := .pointer (some ⟨pb2, 0, none⟩)) rfl) ?_
    refine Rg_on 3 98 rfl (congrArg Value.bool (by simp)) ?_
    refine Rg_run rfl (o_peq Tryz.underlying26 rfl rfl) ?_
    refine Rg_on 3 98 rfl (congrArg Value.bool (by simp)) ?_
    refine Rg_run rfl (o_moveh (v := .int _ _) rfl) ?_
    refine Rg_on 3 98 rfl (congrArg Value.bool (by simp)) ?_
    refine Rg_run rfl (o_neq rfl rfl) ?_
    refine Rg_on 3 98 rfl (congrArg Value.bool (by simp)) ?_
    refine Rg_run rfl (o_bneq Tryz.underlying4 rfl rfl) ?_
    refine Rg_run rfl (o_pickF (v := .bool _) (congrArg Value.bool (by simp)) rfl) ?_
    refine Rg_run rfl (o_moveh (v := .bool _) rfl) ?_
    refine Rg_on 10 105 rfl (congrArg Value.bool (by simp [hf])) ?_
    refine Rg_run rfl (o_moveh (v := v0) rfl) ?_
    refine Rg_on 10 105 rfl (congrArg Value.bool (by simp [hf])) ?_
    refine Rg_run rfl (o_moveh (v := v1) rfl) ?_
    refine Rg_on 10 105 rfl (congrArg Value.bool (by simp [hf])) ?_
    refine Rg_enter rfl (o_call2 Tryz.call21 rfl rfl) (Ok.mono (lis_ok _ _ _ hb0 hm _ hs) ?_)
    rintro _ w58 ⟨rfl, x59⟩
    have z60 := Bel.size x59
    replace hX := Bel.ex hX x59
    replace hr37 := (hr37.ext x59).top
    replace hbk2 := hbk2.ext x59
    refine Rg_on 10 105 rfl (congrArg Value.bool (by simp [hf])) ?_
    refine Rg_run rfl (o_not rfl) ?_
    refine Rg_run rfl (o_pickF (v := .bool _) (congrArg Value.bool (by simp [hf])) rfl) ?_
    refine Rg_nil ?_
    refine W_cond_false rfl ?_
    refine W_skip (W_seq (W_seq (W_region ?_)))
    refine Rg_run rfl (o_moveh (v := .int _ _) rfl) ?_
    refine Rg_run rfl (o_neq rfl rfl) ?_
    refine Rg_nil ?_
    refine W_cond_false (congrArg Value.bool (by simp [hf])) ?_
    refine W_skip (W_seq (W_region ?_))
    refine Rg_run rfl (o_moveh (v := .pointer (some ⟨pb2, 0, none⟩)) rfl) ?_
    refine Rg_run rfl (o_moveh (v := u37) rfl) ?_
    refine Rg_run rfl (o_assignh (v := .pointer (some ⟨pb2, 0, none⟩)) rfl) ?_
    refine Rg_run rfl (o_assignh (v := u37) rfl) ?_
    refine Rg_run rfl o_assignc ?_
    refine Rg_nil (W_ret ?_)
    refine ⟨_, res_T (vs := [(.pointer (some ⟨pb2, 0, none⟩)), (u37), .bool _]) rfl ⟨rfl, rfl, rfl, trivial⟩ (by simp), ?_⟩
    have hst : (stepR m o).1 = (setR m (numO o) o.r false).1 := by rw [stepR, if_neg hk1, if_neg hk2, if_neg hk3]
    rw [hst]
    exact ⟨⟨_, _, rfl, hbk2, hr37⟩, hX⟩
  refine Rg_run rfl (o_moveh (v := .int _ _) rfl) ?_
  obtain hpe := hp29.2 hf
  subst hpe
  refine Rg_run rfl (o_moveh (v := .int _ _) rfl) ?_
  refine Rg_run rfl (o_neq rfl rfl) ?_
  refine Rg_run rfl (o_moveh (v := .bool _) rfl) ?_
  refine Rg_on 3 98 rfl (congrArg Value.bool (by simp)) ?_
  refine Rg_run rfl (o_moveh (v := .pointer none) rfl) ?_
  refine Rg_on 3 98 rfl (congrArg Value.bool (by simp)) ?_
  refine Rg_run rfl (o_peq Tryz.underlying26 rfl rfl) ?_
  refine Rg_on 3 98 rfl (congrArg Value.bool (by simp)) ?_
  refine Rg_run rfl (o_moveh (v := .int _ _) rfl) ?_
  refine Rg_on 3 98 rfl (congrArg Value.bool (by simp)) ?_
  refine Rg_run rfl (o_neq rfl rfl) ?_
  refine Rg_on 3 98 rfl (congrArg Value.bool (by simp)) ?_
  refine Rg_run rfl (o_bneq Tryz.underlying4 rfl rfl) ?_
  refine Rg_run rfl (o_pickF (v := .bool _) (congrArg Value.bool (by simp)) rfl) ?_
  refine Rg_run rfl (o_moveh (v := .bool _) rfl) ?_
  refine Rg_on 10 105 rfl (congrArg Value.bool (by simp [hf])) ?_
  refine Rg_run rfl (o_moveh (v := v0) rfl) ?_
  refine Rg_on 10 105 rfl (congrArg Value.bool (by simp [hf])) ?_
  refine Rg_run rfl (o_moveh (v := v1) rfl) ?_
  refine Rg_on 10 105 rfl (congrArg Value.bool (by simp [hf])) ?_
  refine Rg_enter rfl (o_call2 Tryz.call21 rfl rfl) (Ok.mono (lis_ok _ _ _ hb0 hm _ hs) ?_)
  rintro _ w61 ⟨rfl, x62⟩
  have z63 := Bel.size x62
  replace hX := Bel.ex hX x62
  replace hb0 := hb0.ext x62
  replace hs := (hs.ext x62).top
  refine Rg_on 10 105 rfl (congrArg Value.bool (by simp [hf])) ?_
  refine Rg_run rfl (o_not rfl) ?_
  refine Rg_run rfl (o_pickF (v := .bool _) (congrArg Value.bool (by simp [hf])) rfl) ?_
  refine Rg_nil ?_
  refine W_cond_false rfl ?_
  refine W_skip (W_seq (W_seq (W_region ?_)))
  refine Rg_run rfl (o_moveh (v := .int _ _) rfl) ?_
  refine Rg_run rfl (o_neq rfl rfl) ?_
  refine Rg_nil ?_
  refine W_cond_true (congrArg Value.bool (by simp [hf])) ?_
  refine W_seq (W_region ?_)
  refine Rg_run rfl (o_moveh (v := v0) rfl) ?_
  refine Rg_run rfl (o_moveh (v := v1) rfl) ?_
  refine Rg_run rfl (o_assignh (v := v0) rfl) ?_
  refine Rg_run rfl (o_assignh (v := v1) rfl) ?_
  refine Rg_run rfl o_assignc ?_
  refine Rg_nil (W_ret ?_)
  refine ⟨_, res_T (vs := [(v0), (v1), .bool _]) rfl ⟨rfl, rfl, rfl, trivial⟩ (by simp), ?_⟩
  have hst : (stepR m o).1 = m := by rw [stepR, if_neg hk1, if_neg hk2, if_neg hk3]; exact setR_err hf
  rw [hst]
  exact ⟨⟨_, _, rfl, hb0, hs⟩, hX⟩

theorem lplay_ok (a : Option Addr) (c : Nat) (G : Nat → Prop) (l : List SOp) (w : World) (hs : Sl encOp 4 G w a c l) (hl : ∀ o ∈ l, I64 o.r) : Ok Tryz.prog 8 #[.slice a l.length c] w fun v w' => (∃ p q m, v = .tuple #[p, q] ∧ OkM m ∧ BkIs w' p m ∧ Rd encRs 3 (Lt w'.heap.size) w' q m) ∧ Ext False w w' := by
  have hlen := hs.len
  refine Ok_of_W 39 Tryz.func8 rfl rfl rfl ?_
  have hX : Ext False w w := Bel.refl _ _
  refine W_seq (W_region ?_)
  refine Rg_run rfl o_assignc ?_
  refine Rg_run rfl o_assignc ?_
  refine Rg_nil (W_seq (W_region ?_))
  refine Rg_enter rfl (o_call0 Tryz.call30) (Ok.mono (snew_ok _) ?_)
  rintro v10 w1 ⟨hbk10, x2⟩
  have z3 := Bel.size x2
  replace hX := Bel.ex hX x2
  replace hs := hs.ext x2
  refine Rg_run rfl (o_assignh (v := v10) rfl) ?_
  refine Rg_nil (W_seq (W_region ?_))
  refine Rg_run rfl o_assignc ?_
  refine Rg_nil (W_seq (W_seq (W_region ?_)))
  refine Rg_run rfl o_assignc ?_
  refine Rg_nil (W_block ?_)
  refine W_for (α := Nat × List RS × Value × Value) [(2, 9), (11, 36)] (fun q => [(6, .int .i64 (q.1 : Int)), (4, q.2.2.1), (5, q.2.2.2)]) (fun q w' => (OkM q.2.1) ∧ Ext False w1 w' ∧ (BkIs w' q.2.2.1 q.2.1 ∧ Rd encRs 3 (Lt w'.heap.size) w' q.2.2.2 q.2.1)) (fun q => 30 - q.1) (0, [], v10, .slice none 0 0) ⟨rfl, rfl, rfl, trivial⟩ ⟨OkM.nil, Bel.refl _ _, ⟨hbk10, Rd.none⟩⟩ ?_
  rintro ⟨k, m, vb, vm⟩ fb6 w5 ⟨hm, hXL4, ⟨hbk, hrq⟩⟩
  dsimp only at *
  have z7 := Bel.size hXL4
  replace hX := Bel.ex hX hXL4
  replace hs := hs.ext hXL4
  refine W_seq (W_seq (W_region ?_))
  refine Rg_run rfl (o_moveh (v := .int _ _) rfl) ?_
  refine Rg_run rfl (o_moveh (v := .slice _ _ _) rfl) ?_
  refine Rg_run rfl (o_llen Tryz.underlying22 rfl) ?_
  refine Rg_run rfl (o_lss rfl rfl) ?_
  refine Rg_run rfl (o_moveh (v := .bool _) rfl) ?_
  refine Rg_may 4 15 rfl rfl rfl (fun hg => (o_moveh (v := .int _ _) rfl)) ?_
  refine Rg_may 4 15 rfl rfl rfl (fun hg => (o_lss (gsel (u := undef) hg) rfl)) ?_
  refine Rg_run rfl (o_and (u := undef) rfl rfl) ?_
  refine Rg_nil ?_
  refine W_cond rfl (fun hc1 => ?_) (fun hc1 => ?_)
  · skip
    have hkl : k < l.length := by rw [Bool.and_eq_true] at hc1; have := of_decide_eq_true hc1.1; omega
    have hk30 : k < 30 := by rw [Bool.and_eq_true] at hc1; have := of_decide_eq_true hc1.2; omega
    refine W_skip (W_seq (W_block (W_seq (W_region ?_))))
    refine Rg_run rfl (o_moveh (v := vb) rfl) ?_
    refine Rg_run rfl (o_moveh (v := vm) rfl) ?_
    refine Rg_run rfl (o_moveh (v := .slice _ _ _) rfl) ?_
    refine Rg_run rfl (o_moveh (v := .int _ _) rfl) ?_
    refine Rg_run rfl (o_iaR Tryz.underlying22 Tryz.sizeOf24 hs rfl rfl (by first | omega | (unfold I64; omega) | (simp; done) | (simp; omega) | (simp at *; omega))) ?_
    refine Rg_run rfl (o_ldRS Tryz.isAgg24 Tryz.sizeOf24 hs rfl (getE opz hkl)) ?_
    refine Rg_enter rfl (o_call3 Tryz.call36 rfl rfl rfl) (Ok.mono (lapply_ok _ m _ hbk hm _ hrq (l.getD k opz) (hl _ (gm hkl))) ?_)
    rintro _ w8 ⟨⟨p28, q28, rfl, hbk28, hrq28⟩, x9⟩
    have z10 := Bel.size x9
    replace hX := Bel.ex hX x9
    replace hXL4 := Bel.ex hXL4 x9
    refine Rg_run rfl (o_moveh (v := .tuple _) rfl) ?_
    refine Rg_run rfl (o_extract rfl rfl) ?_
    refine Rg_run rfl (o_extract rfl rfl) ?_
    refine Rg_run rfl (o_extract rfl rfl) ?_
    refine Rg_run rfl (o_assignh (v := p28) rfl) ?_
    refine Rg_run rfl (o_assignh (v := q28) rfl) ?_
    refine Rg_run rfl (o_assignh (v := .bool _) rfl) ?_
    refine Rg_nil (W_seq (W_seq (W_region ?_)))
    refine Rg_run rfl (o_moveh (v := .bool _) rfl) ?_
    refine Rg_run rfl (o_not rfl) ?_
    refine Rg_nil ?_
    refine W_cond_false rfl ?_
    refine W_skip (W_region ?_)
    refine Rg_run rfl (o_moveh (v := p28) rfl) ?_
    refine Rg_run rfl (o_moveh (v := q28) rfl) ?_
    refine Rg_run rfl (o_assignh (v := p28) rfl) ?_
    refine Rg_run rfl (o_assignh (v := q28) rfl) ?_
    refine Rg_nil (W_region ?_)
    refine Rg_run rfl (o_moveh (v := .int _ _) rfl) ?_
    refine Rg_run rfl (o_add rfl rfl (by unfold I64; omega)) ?_
    refine Rg_run rfl (o_assignh (v := .int _ _) rfl) ?_
    refine Rg_nil ?_
    refine ⟨(k + 1, (stepR m (l.getD k opz)).1, p28, q28), ⟨?_, ?_, ?_, trivial⟩, ?_, ⟨?_, hXL4, ?_⟩, ?_⟩
    · first | rfl | (go_num) | (exact congrArg _ (by omega))
    · first | rfl | (go_num) | (exact congrArg _ (by omega))
    · first | rfl | (go_num) | (exact congrArg _ (by omega))
    · repeat (first | exact off_refl _ _ | exact off_mix | refine off_put rfl ?_ | refine off_putN ?_ | refine off_setL rfl ?_ | refine off_mix' rfl ?_)
    · exact hm.step _
    · exact ⟨hbk28, hrq28⟩
    · show 30 - (k + 1) < 30 - k; omega
  skip
  refine W_exit (exAt_hit (W_seq (W_region ?_)))
  refine Rg_run rfl (o_moveh (v := vb) rfl) ?_
  refine Rg_run rfl (o_moveh (v := vm) rfl) ?_
  refine Rg_run rfl (o_assignh (v := vb) rfl) ?_
  refine Rg_run rfl (o_assignh (v := vm) rfl) ?_
  refine Rg_nil (W_ret ?_)
  refine ⟨_, res_tmp2 rfl rfl rfl, ?_⟩
  exact ⟨⟨_, _, m, rfl, hm, hbk, hrq⟩, hX⟩

theorem okL1 : OkM ([⟨1, 4, 0⟩] : List RS) := ⟨by decide, by decide, by decide, by decide⟩
theorem okL2 : OkM ([⟨1, 4, 0⟩, ⟨2, 4, 0⟩] : List RS) := ⟨by decide, by decide, by decide, by decide⟩
theorem okL3 : OkM ([⟨2, 4, 0⟩] : List RS) := ⟨by decide, by decide, by decide, by decide⟩
theorem okL4 : OkM ([⟨1, 7, 0⟩, ⟨2, 4, 0⟩] : List RS) := ⟨by decide, by decide, by decide, by decide⟩
theorem okL5 : OkM ([⟨1, 7, 4⟩, ⟨2, 4, 0⟩] : List RS) := ⟨by decide, by decide, by decide, by decide⟩
theorem okL6 : OkM ([⟨1, 7, 36⟩, ⟨2, 4, 0⟩] : List RS) := ⟨by decide, by decide, by decide, by decide⟩
theorem aw_eff1 {o : OV} (h : HOk o [((2 : Fin 64), (3 : Fin 64))]) : effW (fun y => closH (some o) (memW y 64)) ([⟨1, 7, 36⟩, ⟨2, 4, 0⟩] : List RS) 1 (ofW [2, 3]) = 12 := by
  have e : effW (fun y => closH (some o) (memW y 64)) ([⟨1, 7, 36⟩, ⟨2, 4, 0⟩] : List RS) 1 (ofW [2, 3]) = closW o 4 := rfl
  rw [e]
  refine (h.clos 4).uniq (fun c => ?_)
  have hr : (∃ r : Fin 64, 1 ≤ r.val ∧ r.val < 64 ∧ (4 : W64).getLsbD r.val = true ∧ (c = r ∨ Rch [((2 : Fin 64), (3 : Fin 64))] r c)) ↔ (∃ r : Fin 64, 1 ≤ r.val ∧ r.val < 64 ∧ (4 : W64).getLsbD r.val = true ∧ (c = r ∨ r = 2 ∧ c = 3)) := by
    constructor
    · rintro ⟨r, h1, h2, h3, h4⟩; exact ⟨r, h1, h2, h3, h4.imp_right (rch_single (by decide)).1⟩
    · rintro ⟨r, h1, h2, h3, h4⟩; exact ⟨r, h1, h2, h3, h4.imp_right (rch_single (by decide)).2⟩
  rw [hr]
  clear hr
  revert c
  decide +kernel
theorem aw_eff2 {o : OV} (h : HOk o [((2 : Fin 64), (3 : Fin 64))]) : effW (fun y => closH (some o) (memW y 64)) ([⟨1, 7, 36⟩, ⟨2, 4, 0⟩] : List RS) 1 (ofW [3]) = 0 := by
  have e : effW (fun y => closH (some o) (memW y 64)) ([⟨1, 7, 36⟩, ⟨2, 4, 0⟩] : List RS) 1 (ofW [3]) = closW o 0 := rfl
  rw [e]
  refine (h.clos 0).uniq (fun c => ?_)
  constructor
  · intro h1; simp at h1
  · rintro ⟨r, _, _, h3, _⟩; simp at h3
theorem awake_ok (w : World) (hT : Tb w) : Ok Tryz.prog 7 #[] w fun v w' => v = .bool true ∧ Ext False w w' := by
  refine Ok_of_W 105 Tryz.func7 rfl rfl rfl ?_
  have hX : Ext False w w := Bel.refl _ _
  refine W_seq (W_region ?_)
  refine Rg_run rfl o_assignc ?_
  refine Rg_nil (W_seq (W_region ?_))
  refine Rg_enter rfl (o_call0 Tryz.call30) (Ok.mono (snew_ok _) ?_)
  rintro v14 w1 ⟨hbk14, x2⟩
  replace hX := Bel.ex hX x2
  replace hT := hT.ext x2
  refine Rg_enter rfl (o_call2 Tryz.call11 rfl rfl) (Ok.mono (sopenC_ok _ [] _ hbk14 OkM.nil 4 (m' := ([⟨1, 4, 0⟩] : List RS)) (k := 1) (by decide)) ?_)
  rintro _ w3 ⟨⟨p15, rfl, hbk15⟩, x4⟩
  replace hX := Bel.ex hX x4
  replace hT := hT.ext x4
  replace hbk14 := hbk14.ext x4
  refine Rg_run rfl (o_moveh (v := .tuple _) rfl) ?_
  refine Rg_run rfl (o_extract rfl rfl) ?_
  refine Rg_run rfl (o_extract rfl rfl) ?_
  refine Rg_run rfl (o_extract rfl rfl) ?_
  refine Rg_run rfl (o_assignh (v := p15) rfl) ?_
  refine Rg_run rfl (o_assignh (v := .int _ _) rfl) ?_
  refine Rg_run rfl (o_assignh (v := .int _ _) rfl) ?_
  refine Rg_nil (W_seq (W_region ?_))
  refine Rg_run rfl (o_moveh (v := p15) rfl) ?_
  refine Rg_enter rfl (o_call2 Tryz.call11 rfl rfl) (Ok.mono (sopenC_ok _ ([⟨1, 4, 0⟩] : List RS) _ hbk15 okL1 4 (m' := ([⟨1, 4, 0⟩, ⟨2, 4, 0⟩] : List RS)) (k := 2) (by decide)) ?_)
  rintro _ w5 ⟨⟨p21, rfl, hbk21⟩, x6⟩
  replace hX := Bel.ex hX x6
  replace hT := hT.ext x6
  replace hbk14 := hbk14.ext x6
  replace hbk15 := hbk15.ext x6
  refine Rg_run rfl (o_moveh (v := .tuple _) rfl) ?_
  refine Rg_run rfl (o_extract rfl rfl) ?_
  refine Rg_run rfl (o_extract rfl rfl) ?_
  refine Rg_run rfl (o_extract rfl rfl) ?_
  refine Rg_run rfl (o_assignh (v := p21) rfl) ?_
  refine Rg_run rfl (o_assignh (v := .int _ _) rfl) ?_
  refine Rg_run rfl (o_assignh (v := .int _ _) rfl) ?_
  refine Rg_nil (W_seq (W_region ?_))
  refine Rg_run rfl (o_moveh (v := p21) rfl) ?_
  refine Rg_enter rfl (o_call2 Tryz.call13 rfl rfl) (Ok.mono (scloseC_ok _ ([⟨1, 4, 0⟩, ⟨2, 4, 0⟩] : List RS) _ hbk21 okL2 1 (by decide) (m' := ([⟨2, 4, 0⟩] : List RS)) (by decide)) ?_)
  rintro _ w7 ⟨⟨p27, rfl, hbk27⟩, x8⟩
  replace hX := Bel.ex hX x8
  replace hT := hT.ext x8
  replace hbk14 := hbk14.ext x8
  replace hbk15 := hbk15.ext x8
  replace hbk21 := hbk21.ext x8
  refine Rg_run rfl (o_moveh (v := .tuple _) rfl) ?_
  refine Rg_run rfl (o_extract rfl rfl) ?_
  refine Rg_run rfl (o_extract rfl rfl) ?_
  refine Rg_run rfl (o_assignh (v := p27) rfl) ?_
  refine Rg_run rfl (o_assignh (v := .int _ _) rfl) ?_
  refine Rg_nil (W_seq (W_region ?_))
  refine Rg_run rfl (o_moveh (v := p27) rfl) ?_
  refine Rg_enter rfl (o_call2 Tryz.call11 rfl rfl) (Ok.mono (sopenC_ok _ ([⟨2, 4, 0⟩] : List RS) _ hbk27 okL3 7 (m' := ([⟨1, 7, 0⟩, ⟨2, 4, 0⟩] : List RS)) (k := 1) (by decide)) ?_)
  rintro _ w9 ⟨⟨p32, rfl, hbk32⟩, x10⟩
  replace hX := Bel.ex hX x10
  replace hT := hT.ext x10
  replace hbk14 := hbk14.ext x10
  replace hbk15 := hbk15.ext x10
  replace hbk21 := hbk21.ext x10
  replace hbk27 := hbk27.ext x10
  refine Rg_run rfl (o_moveh (v := .tuple _) rfl) ?_
  refine Rg_run rfl (o_extract rfl rfl) ?_
  refine Rg_run rfl (o_extract rfl rfl) ?_
  refine Rg_run rfl (o_extract rfl rfl) ?_
  refine Rg_run rfl (o_assignh (v := p32) rfl) ?_
  refine Rg_run rfl (o_assignh (v := .int _ _) rfl) ?_
  refine Rg_run rfl (o_assignh (v := .int _ _) rfl) ?_
  refine Rg_nil (W_seq (W_seq (W_region ?_)))
  refine Rg_run rfl (o_moveh (v := .int _ _) rfl) ?_
  refine Rg_run rfl (o_neq rfl rfl) ?_
  refine Rg_run rfl (o_moveh (v := .bool _) rfl) ?_
  refine Rg_on 2 38 rfl (congrArg Value.bool (by decide)) ?_
  refine Rg_run rfl (o_moveh (v := .int _ _) rfl) ?_
  refine Rg_on 2 38 rfl (congrArg Value.bool (by decide)) ?_
  refine Rg_run rfl (o_neq rfl rfl) ?_
  refine Rg_run rfl (o_pickF (v := .bool _) (congrArg Value.bool (by decide)) rfl) ?_
  refine Rg_run rfl (o_moveh (v := .bool _) rfl) ?_
  refine Rg_on 6 42 rfl (congrArg Value.bool (by decide)) ?_
  refine Rg_run rfl (o_moveh (v := .int _ _) rfl) ?_
  refine Rg_on 6 42 rfl (congrArg Value.bool (by decide)) ?_
  refine Rg_run rfl (o_neq rfl rfl) ?_
  refine Rg_run rfl (o_pickF (v := .bool _) (congrArg Value.bool (by decide)) rfl) ?_
  refine Rg_run rfl (o_moveh (v := .bool _) rfl) ?_
  refine Rg_on 10 46 rfl (congrArg Value.bool (by decide)) ?_
  refine Rg_run rfl (o_moveh (v := .int _ _) rfl) ?_
  refine Rg_on 10 46 rfl (congrArg Value.bool (by decide)) ?_
  refine Rg_run rfl (o_neq rfl rfl) ?_
  refine Rg_run rfl (o_pickF (v := .bool _) (congrArg Value.bool (by decide)) rfl) ?_
  refine Rg_run rfl (o_moveh (v := .bool _) rfl) ?_
  refine Rg_on 14 50 rfl (congrArg Value.bool (by decide)) ?_
  refine Rg_run rfl (o_moveh (v := .int _ _) rfl) ?_
  refine Rg_on 14 50 rfl (congrArg Value.bool (by decide)) ?_
  refine Rg_run rfl (o_neq rfl rfl) ?_
  refine Rg_run rfl (o_pickF (v := .bool _) (congrArg Value.bool (by decide)) rfl) ?_
  refine Rg_run rfl (o_moveh (v := .bool _) rfl) ?_
  refine Rg_on 18 54 rfl (congrArg Value.bool (by decide)) ?_
  refine Rg_run rfl (o_moveh (v := .int _ _) rfl) ?_
  refine Rg_on 18 54 rfl (congrArg Value.bool (by decide)) ?_
  refine Rg_run rfl (o_neq rfl rfl) ?_
  refine Rg_run rfl (o_pickF (v := .bool _) (congrArg Value.bool (by decide)) rfl) ?_
  refine Rg_run rfl (o_moveh (v := .bool _) rfl) ?_
  refine Rg_on 22 58 rfl (congrArg Value.bool (by decide)) ?_
  refine Rg_run rfl (o_moveh (v := .int _ _) rfl) ?_
  refine Rg_on 22 58 rfl (congrArg Value.bool (by decide)) ?_
  refine Rg_run rfl (o_neq rfl rfl) ?_
  refine Rg_run rfl (o_pickF (v := .bool _) (congrArg Value.bool (by decide)) rfl) ?_
  refine Rg_nil ?_
  refine W_cond_false (congrArg Value.bool (by decide)) ?_
  refine W_skip (W_seq (W_region ?_))
  refine Rg_run rfl (o_moveh (v := p32) rfl) ?_
  refine Rg_enter rfl (o_call3 Tryz.call14 rfl rfl rfl) (Ok.mono (sactC_ok _ ([⟨1, 7, 0⟩, ⟨2, 4, 0⟩] : List RS) _ hbk32 okL4 1 2 (by decide) (by unfold I64; decide) (m' := ([⟨1, 7, 4⟩, ⟨2, 4, 0⟩] : List RS)) (by decide)) ?_)
  rintro _ w11 ⟨⟨p64, rfl, hbk64⟩, x12⟩
  replace hX := Bel.ex hX x12
  replace hT := hT.ext x12
  replace hbk14 := hbk14.ext x12
  replace hbk15 := hbk15.ext x12
  replace hbk21 := hbk21.ext x12
  replace hbk27 := hbk27.ext x12
  replace hbk32 := hbk32.ext x12
  refine Rg_run rfl (o_moveh (v := .tuple _) rfl) ?_
  refine Rg_run rfl (o_extract rfl rfl) ?_
  refine Rg_run rfl (o_extract rfl rfl) ?_
  refine Rg_run rfl (o_assignh (v := p64) rfl) ?_
  refine Rg_run rfl (o_assignh (v := .int _ _) rfl) ?_
  refine Rg_nil (W_seq (W_region ?_))
  refine Rg_run rfl (o_moveh (v := p64) rfl) ?_
  refine Rg_enter rfl (o_call3 Tryz.call14 rfl rfl rfl) (Ok.mono (sactC_ok _ ([⟨1, 7, 4⟩, ⟨2, 4, 0⟩] : List RS) _ hbk64 okL5 1 5 (by decide) (by unfold I64; decide) (m' := ([⟨1, 7, 36⟩, ⟨2, 4, 0⟩] : List RS)) (by decide)) ?_)
  rintro _ w13 ⟨⟨p69, rfl, hbk69⟩, x14⟩
  replace hX := Bel.ex hX x14
  replace hT := hT.ext x14
  replace hbk14 := hbk14.ext x14
  replace hbk15 := hbk15.ext x14
  replace hbk21 := hbk21.ext x14
  replace hbk27 := hbk27.ext x14
  replace hbk32 := hbk32.ext x14
  replace hbk64 := hbk64.ext x14
  refine Rg_run rfl (o_moveh (v := .tuple _) rfl) ?_
  refine Rg_run rfl (o_extract rfl rfl) ?_
  refine Rg_run rfl (o_extract rfl rfl) ?_
  refine Rg_run rfl (o_assignh (v := p69) rfl) ?_
  refine Rg_run rfl (o_assignh (v := .int _ _) rfl) ?_
  refine Rg_nil (W_seq (W_region ?_))
  refine Rg_enter rfl (o_call0 Tryz.call31) (Ok.mono (hnew_ok _ hT) ?_)
  rintro v73 w15 ⟨hh73, x16⟩
  replace hX := Bel.ex hX x16
  replace hT := hT.ext x16
  replace hbk14 := hbk14.ext x16
  replace hbk15 := hbk15.ext x16
  replace hbk21 := hbk21.ext x16
  replace hbk27 := hbk27.ext x16
  replace hbk32 := hbk32.ext x16
  replace hbk64 := hbk64.ext x16
  replace hbk69 := hbk69.ext x16
  refine Rg_enter rfl (o_call3 Tryz.call32 rfl rfl rfl) (Ok.mono (hlink_ok _ [] (fun c => c.val) 2 3 _ hh73 hT (by simp) (by simp) (by decide) (by simp) (by decide) (by decide)) ?_)
  rintro _ w17 ⟨⟨v74, rfl, hh74⟩, x18⟩
  replace hX := Bel.ex hX x18
  replace hT := hT.ext x18
  replace hbk14 := hbk14.ext x18
  replace hbk15 := hbk15.ext x18
  replace hbk21 := hbk21.ext x18
  replace hbk27 := hbk27.ext x18
  replace hbk32 := hbk32.ext x18
  replace hbk64 := hbk64.ext x18
  replace hbk69 := hbk69.ext x18
  replace hh73 := hh73.ext x18
  refine Rg_run rfl (o_moveh (v := .tuple _) rfl) ?_
  refine Rg_run rfl (o_extract rfl rfl) ?_
  refine Rg_run rfl (o_extract rfl rfl) ?_
  refine Rg_run rfl (o_assignh (v := v74) rfl) ?_
  refine Rg_run rfl (o_assignh (v := .int _ _) rfl) ?_
  refine Rg_nil (W_seq (W_region ?_))
  obtain ⟨ph, po, oo, hhe, hh1, hh2, hh3⟩ := hh74
  subst hhe
  refine Rg_run rfl (o_moveh (v := .int _ _) rfl) ?_
  refine Rg_run rfl (o_eql rfl rfl) ?_
  refine Rg_run rfl (o_moveh (v := .bool _) rfl) ?_
  refine Rg_on 2 79 rfl (congrArg Value.bool (by decide)) ?_
  refine Rg_run rfl (o_moveh (v := .int _ _) rfl) ?_
  refine Rg_on 2 79 rfl (congrArg Value.bool (by decide)) ?_
  refine Rg_run rfl (o_eql rfl rfl) ?_
  refine Rg_run rfl (o_pickT (v := .bool _) (congrArg Value.bool (by decide)) rfl) ?_
  refine Rg_run rfl (o_moveh (v := .bool _) rfl) ?_
  refine Rg_on 6 83 rfl (congrArg Value.bool (by decide)) ?_
  refine Rg_run rfl (o_moveh (v := .int _ _) rfl) ?_
  refine Rg_on 6 83 rfl (congrArg Value.bool (by decide)) ?_
  refine Rg_run rfl (o_eql rfl rfl) ?_
  refine Rg_run rfl (o_pickT (v := .bool _) (congrArg Value.bool (by decide)) rfl) ?_
  refine Rg_run rfl (o_moveh (v := .bool _) rfl) ?_
  refine Rg_on 10 87 rfl (congrArg Value.bool (by decide)) ?_
  refine Rg_run rfl (o_moveh (v := p69) rfl) ?_
  refine Rg_on 10 87 rfl (congrArg Value.bool (by decide)) ?_
  refine Rg_bs (vs := [.int _ _, .int _ _]) (([2, 3] : List Int)) rfl encJ_ok el_int rfl rfl ⟨rfl, ⟨rfl, trivial⟩⟩ rfl rfl rfl rfl ?_
  intro a89 w19 x20 hown89
  replace hX := Bel.ex hX x20
  replace hT := hT.ext x20
  replace hbk14 := hbk14.ext x20
  replace hbk15 := hbk15.ext x20
  replace hbk21 := hbk21.ext x20
  replace hbk27 := hbk27.ext x20
  replace hbk32 := hbk32.ext x20
  replace hbk64 := hbk64.ext x20
  replace hbk69 := hbk69.ext x20
  replace hh73 := hh73.ext x20
  replace hh1 := hh1.ext x20
  replace hh2 := hh2.ext x20
  refine Rg_on 10 87 rfl (congrArg Value.bool (by decide)) ?_
  refine Rg_enter rfl (o_call1 Tryz.call33 rfl) (Ok.mono (bof_ok _ _ [2, 3] (hown89.trd encJ_ok) (by simp) (by decide)) ?_)
  rintro _ w21 ⟨a90, c90, rfl, hq90, x22⟩
  replace hX := Bel.ex hX x22
  replace hT := hT.ext x22
  replace hbk14 := hbk14.ext x22
  replace hbk15 := hbk15.ext x22
  replace hbk21 := hbk21.ext x22
  replace hbk27 := hbk27.ext x22
  replace hbk32 := hbk32.ext x22
  replace hbk64 := hbk64.ext x22
  replace hbk69 := hbk69.ext x22
  replace hh73 := hh73.ext x22
  replace hh1 := hh1.ext x22
  replace hh2 := hh2.ext x22
  replace hown89 := hown89.ext x22
  refine Rg_on 10 87 rfl (congrArg Value.bool (by decide)) ?_
  refine Rg_run rfl (o_moveh (v := .pointer (some ⟨ph, 0, none⟩)) rfl) ?_
  refine Rg_on 10 87 rfl (congrArg Value.bool (by decide)) ?_
  refine Rg_enter rfl (o_call4 Tryz.call27 rfl rfl rfl rfl) (Ok.mono (seff_ok _ ([⟨1, 7, 36⟩, ⟨2, 4, 0⟩] : List RS) _ hbk69 okL6 1 (by decide) ⟨a90, c90, ofW [2, 3]⟩ _ hq90 (some ⟨ph, 0, none⟩) (some oo) (fun _ => True) ⟨ph, po, rfl, trivial, hh1, hh2.mono (fun _ _ _ => trivial)⟩ hT) ?_)
  rintro _ w23 ⟨⟨a92, c92, rfl, hq92⟩, x24⟩
  replace hX := Bel.ex hX x24
  replace hT := hT.ext x24
  replace hbk14 := hbk14.ext x24
  replace hbk15 := hbk15.ext x24
  replace hbk21 := hbk21.ext x24
  replace hbk27 := hbk27.ext x24
  replace hbk32 := hbk32.ext x24
  replace hbk64 := hbk64.ext x24
  replace hbk69 := hbk69.ext x24
  replace hh73 := hh73.ext x24
  replace hh1 := hh1.ext x24
  replace hh2 := hh2.ext x24
  replace hown89 := hown89.ext x24
  replace hq90 := hq90.ext x24
  rw [aw_eff1 hh3] at hq92 ⊢
  refine Rg_on 10 87 rfl (congrArg Value.bool (by decide)) ?_
  refine Rg_bs (vs := [.int _ _, .int _ _]) (([2, 3] : List Int)) rfl encJ_ok el_int rfl rfl ⟨rfl, ⟨rfl, trivial⟩⟩ rfl rfl rfl rfl ?_
  intro a93 w25 x26 hown93
  replace hX := Bel.ex hX x26
  replace hT := hT.ext x26
  replace hbk14 := hbk14.ext x26
  replace hbk15 := hbk15.ext x26
  replace hbk21 := hbk21.ext x26
  replace hbk27 := hbk27.ext x26
  replace hbk32 := hbk32.ext x26
  replace hbk64 := hbk64.ext x26
  replace hbk69 := hbk69.ext x26
  replace hh73 := hh73.ext x26
  replace hh1 := hh1.ext x26
  replace hh2 := hh2.ext x26
  replace hown89 := hown89.ext x26
  replace hq90 := hq90.ext x26
  replace hq92 := hq92.ext x26
  refine Rg_on 10 87 rfl (congrArg Value.bool (by decide)) ?_
  refine Rg_enter rfl (o_call1 Tryz.call33 rfl) (Ok.mono (bof_ok _ _ [2, 3] (hown93.trd encJ_ok) (by simp) (by decide)) ?_)
  rintro _ w27 ⟨a94, c94, rfl, hq94, x28⟩
  replace hX := Bel.ex hX x28
  replace hT := hT.ext x28
  replace hbk14 := hbk14.ext x28
  replace hbk15 := hbk15.ext x28
  replace hbk21 := hbk21.ext x28
  replace hbk27 := hbk27.ext x28
  replace hbk32 := hbk32.ext x28
  replace hbk64 := hbk64.ext x28
  replace hbk69 := hbk69.ext x28
  replace hh73 := hh73.ext x28
  replace hh1 := hh1.ext x28
  replace hh2 := hh2.ext x28
  replace hown89 := hown89.ext x28
  replace hq90 := hq90.ext x28
  replace hq92 := hq92.ext x28
  replace hown93 := hown93.ext x28
  refine Rg_on 10 87 rfl (congrArg Value.bool (by decide)) ?_
  refine Rg_enter rfl (o_call2 Tryz.call34 rfl rfl) (Ok.mono (beq_ok _ ⟨a92, c92, 12⟩ _ hq92 ⟨a94, c94, ofW [2, 3]⟩ _ hq94) ?_)
  rintro _ w29 ⟨rfl, x30⟩
  replace hX := Bel.ex hX x30
  replace hT := hT.ext x30
  replace hbk14 := hbk14.ext x30
  replace hbk15 := hbk15.ext x30
  replace hbk21 := hbk21.ext x30
  replace hbk27 := hbk27.ext x30
  replace hbk32 := hbk32.ext x30
  replace hbk64 := hbk64.ext x30
  replace hbk69 := hbk69.ext x30
  replace hh73 := hh73.ext x30
  replace hh1 := hh1.ext x30
  replace hh2 := hh2.ext x30
  replace hown89 := hown89.ext x30
  replace hq90 := hq90.ext x30
  replace hq92 := hq92.ext x30
  replace hown93 := hown93.ext x30
  replace hq94 := hq94.ext x30
  refine Rg_run rfl (o_pickT (v := .bool _) (congrArg Value.bool (by decide)) rfl) ?_
  refine Rg_run rfl (o_moveh (v := .bool _) rfl) ?_
  refine Rg_on 20 97 rfl (congrArg Value.bool (show ((12 : W64) == ofW [2, 3]) = true by decide)) ?_
  refine Rg_run rfl (o_moveh (v := p69) rfl) ?_
  refine Rg_on 20 97 rfl (congrArg Value.bool (show ((12 : W64) == ofW [2, 3]) = true by decide)) ?_
  refine Rg_bs (vs := [.int _ _]) (([3] : List Int)) rfl encJ_ok el_int rfl rfl ⟨rfl, trivial⟩ rfl rfl rfl rfl ?_
  intro a99 w31 x32 hown99
  replace hX := Bel.ex hX x32
  replace hT := hT.ext x32
  replace hbk14 := hbk14.ext x32
  replace hbk15 := hbk15.ext x32
  replace hbk21 := hbk21.ext x32
  replace hbk27 := hbk27.ext x32
  replace hbk32 := hbk32.ext x32
  replace hbk64 := hbk64.ext x32
  replace hbk69 := hbk69.ext x32
  replace hh73 := hh73.ext x32
  replace hh1 := hh1.ext x32
  replace hh2 := hh2.ext x32
  replace hown89 := hown89.ext x32
  replace hq90 := hq90.ext x32
  replace hq92 := hq92.ext x32
  replace hown93 := hown93.ext x32
  replace hq94 := hq94.ext x32
  refine Rg_on 20 97 rfl (congrArg Value.bool (show ((12 : W64) == ofW [2, 3]) = true by decide)) ?_
  refine Rg_enter rfl (o_call1 Tryz.call33 rfl) (Ok.mono (bof_ok _ _ [3] (hown99.trd encJ_ok) (by simp) (by decide)) ?_)
  rintro _ w33 ⟨a100, c100, rfl, hq100, x34⟩
  replace hX := Bel.ex hX x34
  replace hT := hT.ext x34
  replace hbk14 := hbk14.ext x34
  replace hbk15 := hbk15.ext x34
  replace hbk21 := hbk21.ext x34
  replace hbk27 := hbk27.ext x34
  replace hbk32 := hbk32.ext x34
  replace hbk64 := hbk64.ext x34
  replace hbk69 := hbk69.ext x34
  replace hh73 := hh73.ext x34
  replace hh1 := hh1.ext x34
  replace hh2 := hh2.ext x34
  replace hown89 := hown89.ext x34
  replace hq90 := hq90.ext x34
  replace hq92 := hq92.ext x34
  replace hown93 := hown93.ext x34
  replace hq94 := hq94.ext x34
  replace hown99 := hown99.ext x34
  refine Rg_on 20 97 rfl (congrArg Value.bool (show ((12 : W64) == ofW [2, 3]) = true by decide)) ?_
  refine Rg_run rfl (o_moveh (v := .pointer (some ⟨ph, 0, none⟩)) rfl) ?_
  refine Rg_on 20 97 rfl (congrArg Value.bool (show ((12 : W64) == ofW [2, 3]) = true by decide)) ?_
  refine Rg_enter rfl (o_call4 Tryz.call27 rfl rfl rfl rfl) (Ok.mono (seff_ok _ ([⟨1, 7, 36⟩, ⟨2, 4, 0⟩] : List RS) _ hbk69 okL6 1 (by decide) ⟨a100, c100, ofW [3]⟩ _ hq100 (some ⟨ph, 0, none⟩) (some oo) (fun _ => True) ⟨ph, po, rfl, trivial, hh1, hh2.mono (fun _ _ _ => trivial)⟩ hT) ?_)
  rintro _ w35 ⟨⟨a102, c102, rfl, hq102⟩, x36⟩
  replace hX := Bel.ex hX x36
  replace hT := hT.ext x36
  replace hbk14 := hbk14.ext x36
  replace hbk15 := hbk15.ext x36
  replace hbk21 := hbk21.ext x36
  replace hbk27 := hbk27.ext x36
  replace hbk32 := hbk32.ext x36
  replace hbk64 := hbk64.ext x36
  replace hbk69 := hbk69.ext x36
  replace hh73 := hh73.ext x36
  replace hh1 := hh1.ext x36
  replace hh2 := hh2.ext x36
  replace hown89 := hown89.ext x36
  replace hq90 := hq90.ext x36
  replace hq92 := hq92.ext x36
  replace hown93 := hown93.ext x36
  replace hq94 := hq94.ext x36
  replace hown99 := hown99.ext x36
  replace hq100 := hq100.ext x36
  rw [aw_eff2 hh3] at hq102 ⊢
  refine Rg_on 20 97 rfl (congrArg Value.bool (show ((12 : W64) == ofW [2, 3]) = true by decide)) ?_
  refine Rg_enter rfl (o_call1 Tryz.call35 rfl) (Ok.mono (bempty_ok _ ⟨a102, c102, 0⟩ _ hq102) ?_)
  rintro _ w37 ⟨rfl, x38⟩
  replace hX := Bel.ex hX x38
  replace hT := hT.ext x38
  replace hbk14 := hbk14.ext x38
  replace hbk15 := hbk15.ext x38
  replace hbk21 := hbk21.ext x38
  replace hbk27 := hbk27.ext x38
  replace hbk32 := hbk32.ext x38
  replace hbk64 := hbk64.ext x38
  replace hbk69 := hbk69.ext x38
  replace hh73 := hh73.ext x38
  replace hh1 := hh1.ext x38
  replace hh2 := hh2.ext x38
  replace hown89 := hown89.ext x38
  replace hq90 := hq90.ext x38
  replace hq92 := hq92.ext x38
  replace hown93 := hown93.ext x38
  replace hq94 := hq94.ext x38
  replace hown99 := hown99.ext x38
  replace hq100 := hq100.ext x38
  replace hq102 := hq102.ext x38
  refine Rg_run rfl (o_pickT (v := .bool _) (congrArg Value.bool (show ((12 : W64) == ofW [2, 3]) = true by decide)) rfl) ?_
  refine Rg_run rfl (o_assignh (v := .bool _) rfl) ?_
  refine Rg_nil (W_ret ?_)
  refine ⟨_, res_tmp rfl rfl, ?_⟩
  refine ⟨congrArg Value.bool ?_, hX⟩
  all_goals (rfl)

end Go.Proofs.YtncmjgmlnnenhaaGreatDoor
