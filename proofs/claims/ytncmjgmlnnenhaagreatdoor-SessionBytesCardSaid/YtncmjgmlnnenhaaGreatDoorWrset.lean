/- Walks, printed by program: each theorem says what a function of the translation returns. -/
import Derived.Test.YtncmjgmlnnenhaaGreatDoorWset
import Derived.Test.YtncmjgmlnnenhaaGreatDoorRe
namespace Go.Proofs.YtncmjgmlnnenhaaGreatDoor
open Go Go.Lx Go.RowKit
set_option maxRecDepth 100000
set_option linter.unusedVariables false
set_option linter.unusedSimpArgs false
set_option linter.unnecessarySimpa false
theorem rsetb_ok (v0 : Value) (G : Nat → Prop) (x : W64) (w : World) (hl0 : Rd encJ 1 G w v0 (memW x 64)) : Ok Tryz.prog 105 #[v0] w fun v w' => Own encB 1 5 (Fsh w w') w' v (setB x) ∧ Ext False w w' := by
  obtain ⟨al, cl, rfl, hl⟩ := hl0
  replace hl := hl.mono (F' := fun g => g < w.heap.size) (fun g h1 h2 => h1)
  have hml := memW_len x 64
  have hmt : ∀ p ∈ (memW x 64), 0 ≤ p ∧ p ≤ topW x ∧ p < 64 := fun p hp => mem_top hp
  refine Ok_of_W 48 Tryz.func105 rfl rfl rfl ?_
  have hX : Ext False w w := Bel.refl _ _
  refine W_seq (W_region ?_)
  refine Rg_run rfl o_assignc ?_
  refine Rg_nil (W_seq (W_region ?_))
  refine Rg_run rfl o_assignc ?_
  refine Rg_nil (W_seq (W_seq (W_region ?_)))
  refine Rg_run rfl (o_moveh (v := .slice _ _ _) rfl) ?_
  refine Rg_run rfl (o_llen Tryz.underlying109 rfl) ?_
  refine Rg_run rfl o_movec ?_
  refine Rg_nil (W_block ?_)
  refine W_for (α := Nat × Int) [(3, 3), (5, 5), (11, 19)] (fun q => [(11, .int .i64 (q.1 : Int)), (3, .int .i64 q.2)]) (fun q w' => (q.1 ≤ (memW x 64).length ∧ q.2 = topI ((memW x 64).take q.1)) ∧ Ext False w w') (fun q => (memW x 64).length - q.1) (0, -1) ⟨rfl, rfl, trivial⟩ ⟨⟨Nat.zero_le _, rfl⟩, Bel.refl _ _⟩ ?_
  rintro ⟨k, tp⟩ fb3 w2 ⟨⟨hk, htp⟩, hXL1⟩
  dsimp only at *
  have z4 := Bel.size hXL1
  replace hX := Bel.ex hX hXL1
  replace hl := hl.ext hXL1
  refine W_seq (W_region ?_)
  refine Rg_run rfl (o_lss rfl rfl) ?_
  refine Rg_nil (W_seq ?_)
  refine W_cond rfl (fun hc1 => ?_) (fun hc1 => ?_)
  · skip
    replace hc1 := of_decide_eq_true hc1
    refine W_skip (W_seq (W_block (W_seq (W_region ?_))))
    refine Rg_run rfl (o_iaR Tryz.underlying109 Tryz.sizeOf3 hl rfl rfl (by first | omega | (unfold I64; omega) | (simp; done) | (simp; omega) | (simp at *; omega))) ?_
    refine Rg_run rfl (o_ldR Tryz.isAgg3 hl rfl rfl (getE 0 (by omega)) rfl) ?_
    refine Rg_run rfl (o_assignh (v := .int _ _) rfl) ?_
    refine Rg_nil (W_seq (W_region ?_))
    skip
    refine Rg_run rfl (o_moveh (v := .int _ _) rfl) ?_
    refine Rg_run rfl (o_moveh (v := .int _ _) rfl) ?_
    refine Rg_run rfl (o_gtr rfl rfl) ?_
    refine Rg_nil ?_
    refine W_cond rfl (fun hc2 => ?_) (fun hc2 => ?_)
    · skip
      replace hc2 := of_decide_eq_true hc2
      refine W_region ?_
      refine Rg_run rfl (o_moveh (v := .int _ _) rfl) ?_
      refine Rg_run rfl (o_assignh (v := .int _ _) rfl) ?_
      refine Rg_nil (W_region ?_)
      refine Rg_run rfl (o_add rfl rfl (by first | omega | (unfold I64; omega) | (simp; done) | (simp; omega) | (simp at *; omega))) ?_
      refine Rg_run rfl (o_moveh (v := .int _ _) rfl) ?_
      refine Rg_nil ?_
      refine ⟨(k + 1, ((memW x 64).getD k 0)), ⟨?_, ?_, trivial⟩, ?_, ⟨?_, hXL1⟩, ?_⟩
      · first | rfl | (go_num) | (exact congrArg _ (by omega))
      · first | rfl | (go_num) | (exact congrArg _ (by omega))
      · repeat (first | exact off_refl _ _ | exact off_mix | refine off_put rfl ?_ | refine off_putN ?_ | refine off_setL rfl ?_ | refine off_mix' rfl ?_)
      · exact ⟨by show k + 1 ≤ _; omega, by show _ = topI (List.take (k + 1) _); rw [topI_take (by omega), ← htp, mxI, if_pos hc2]⟩
      · show (memW x 64).length - (k + 1) < (memW x 64).length - k; omega
    replace hc2 := of_decide_eq_false hc2
    refine W_skip (W_region ?_)
    refine Rg_run rfl (o_add rfl rfl (by first | omega | (unfold I64; omega) | (simp; done) | (simp; omega) | (simp at *; omega))) ?_
    refine Rg_run rfl (o_moveh (v := .int _ _) rfl) ?_
    refine Rg_nil ?_
    refine ⟨(k + 1, tp), ⟨?_, ?_, trivial⟩, ?_, ⟨?_, hXL1⟩, ?_⟩
    · first | rfl | (go_num) | (exact congrArg _ (by omega))
    · first | rfl | (go_num) | (exact congrArg _ (by omega))
    · repeat (first | exact off_refl _ _ | exact off_mix | refine off_put rfl ?_ | refine off_putN ?_ | refine off_setL rfl ?_ | refine off_mix' rfl ?_)
    · exact ⟨by show k + 1 ≤ _; omega, by show _ = topI (List.take (k + 1) _); rw [topI_take (by omega), ← htp, mxI, if_neg hc2]⟩
    · show (memW x 64).length - (k + 1) < (memW x 64).length - k; omega
  replace hc1 := of_decide_eq_false hc1
  rw [List.take_of_length_le (by omega)] at htp
  refine W_exit (exAt_hit (W_seq (W_seq (W_region ?_))))
  refine Rg_run rfl (o_moveh (v := .int _ _) rfl) ?_
  refine Rg_run rfl (o_lss rfl rfl) ?_
  refine Rg_nil ?_
  refine W_cond rfl (fun hc3 => ?_) (fun hc3 => ?_)
  · skip
    replace hc3 := of_decide_eq_true hc3
    have hx0 : x = 0 := Classical.byContradiction fun h => by have h1 := topI_mem h; omega
    refine W_seq (W_region ?_)
    refine Rg_run rfl o_assignc ?_
    refine Rg_nil (W_ret ?_)
    refine ⟨_, res_tmp rfl rfl, ?_⟩
    rw [hx0]; exact ⟨Own.nil _ _, hX⟩
  replace hc3 := of_decide_eq_false hc3
  have hx0 : x ≠ 0 := fun h => by subst h; rw [topI_zero] at htp; omega
  rw [topI_mem hx0] at htp
  subst htp
  have ht64 := (topW_spec hx0).2.1
  refine W_skip (W_seq (W_region ?_))
  refine Rg_run rfl (o_moveh (v := .int _ _) rfl) ?_
  refine Rg_run rfl (o_quoN (a := topW x) (b := 8) rfl rfl (by decide) (by omega)) ?_
  refine Rg_run rfl (o_addN (p := topW x / 8) (b := 1) rfl rfl (by omega)) ?_
  refine Rg_make (m := (topW x / 8 + 1)) (0 : UInt8) rfl encB_ok el_b8 rfl rfl rfl (by omega) ?_
  intro a25 w5 x6 hown25
  have z7 := Bel.size x6
  replace hX := Bel.ex hX x6
  replace hl := hl.ext x6
  replace hown25 := hown25.mono (D' := fun g => w.heap.size ≤ g) (fun g h1 h2 => by omega)
  refine Rg_run rfl (o_assignh (v := .slice _ _ _) rfl) ?_
  refine Rg_nil (W_seq (W_seq (W_region ?_)))
  refine Rg_run rfl (o_moveh (v := .slice _ _ _) rfl) ?_
  refine Rg_run rfl (o_llen Tryz.underlying109 rfl) ?_
  refine Rg_run rfl o_movec ?_
  refine Rg_nil (W_block ?_)
  refine W_for (α := Nat × List UInt8) [(8, 8), (28, 46)] (fun q => [(28, .int .i64 (q.1 : Int))]) (fun q w' => (q.1 ≤ (memW x 64).length ∧ q.2 = byL (topW x / 8 + 1) ((memW x 64).take q.1)) ∧ Bel False (fun g => w.heap.size ≤ g) w5 w' ∧ (Own encB 1 5 (fun g => w.heap.size ≤ g) w' (.slice a25 (topW x / 8 + 1) (topW x / 8 + 1)) q.2)) (fun q => (memW x 64).length - q.1) (0, List.replicate (topW x / 8 + 1) 0) ⟨rfl, trivial⟩ ⟨⟨Nat.zero_le _, rfl⟩, Bel.refl _ _, hown25⟩ ?_
  rintro ⟨k, bs⟩ fb10 w9 ⟨⟨hk, hbs⟩, hXL8, hown25⟩
  dsimp only at *
  have z11 := Bel.size hXL8
  replace hX := Bel.out hX hXL8 (fun g h1 h2 => by first | exact h2 | omega)
  replace hl := hl.keep hXL8 (fun g h1 h2 h3 => by omega)
  have hbl : bs.length = (topW x / 8 + 1) := by rw [hbs, byL_len]
  refine W_seq (W_region ?_)
  refine Rg_run rfl (o_lss rfl rfl) ?_
  refine Rg_nil (W_seq ?_)
  refine W_cond rfl (fun hc4 => ?_) (fun hc4 => ?_)
  · skip
    replace hc4 := of_decide_eq_true hc4
    refine W_skip (W_seq (W_block (W_seq (W_region ?_))))
    refine Rg_run rfl (o_iaR Tryz.underlying109 Tryz.sizeOf3 hl rfl rfl (by first | omega | (unfold I64; omega) | (simp; done) | (simp; omega) | (simp at *; omega))) ?_
    refine Rg_run rfl (o_ldR Tryz.isAgg3 hl rfl rfl (getE 0 (by omega)) rfl) ?_
    refine Rg_run rfl (o_assignh (v := .int _ _) rfl) ?_
    refine Rg_nil (W_region ?_)
    refine Rg_run rfl (o_moveh (v := .slice _ _ _) rfl) ?_
    have hme := hmt _ (gm (z := 0) (show k < (memW x 64).length by omega))
    refine Rg_run rfl (o_moveh (v := .int _ _) rfl) ?_
    refine Rg_run rfl (o_quoT (a := ((memW x 64).getD k 0)) (b := 8) rfl rfl (by omega) (by decide) (by unfold I64; omega)) ?_
    refine Rg_run rfl (o_moveh (v := .slice _ _ _) rfl) ?_
    refine Rg_run rfl (o_moveh (v := .int _ _) rfl) ?_
    refine Rg_run rfl (o_quoT (a := ((memW x 64).getD k 0)) (b := 8) rfl rfl (by omega) (by decide) (by unfold I64; omega)) ?_
    refine Rg_run rfl (o_iaO (i := ((memW x 64).getD k 0).toNat / 8) Tryz.underlying30 Tryz.sizeOf5 hown25 rfl rfl (by omega)) ?_
    refine Rg_run rfl (o_ldR Tryz.isAgg5 (hown25.slA encB_ok) rfl rfl (getE 0 (by omega)) rfl) ?_
    refine Rg_run rfl (o_moveh (v := .int _ _) rfl) ?_
    refine Rg_run rfl (o_remT (a := ((memW x 64).getD k 0)) (b := 8) rfl rfl (by omega) (by decide) (by unfold I64; omega)) ?_
    refine Rg_run rfl (o_convS Tryz.underlying3 Tryz.underlying185 rfl (wrapN64 (by omega))) ?_
    refine Rg_run rfl (o_shl1B (n := ((memW x 64).getD k 0).toNat % 8) rfl rfl (Nat.mod_lt _ (by decide))) ?_
    refine Rg_run rfl (o_borB (a := bs.getD (((memW x 64).getD k 0).toNat / 8) 0) (b := oneB (((memW x 64).getD k 0).toNat % 8)) rfl rfl) ?_
    refine Rg_run rfl (o_iaO (i := ((memW x 64).getD k 0).toNat / 8) Tryz.underlying30 Tryz.sizeOf5 hown25 rfl rfl (by omega)) ?_
    refine Rg_elst (u := (bs.getD (((memW x 64).getD k 0).toNat / 8) 0 ||| oneB (((memW x 64).getD k 0).toNat % 8))) rfl encB_ok Tryz.sizeOf5 rfl rfl rfl hown25 (by omega) ?_
    intro w12 x13 hown25
    have z14 := Bel.size x13
    replace hX := Bel.out hX x13 (fun g h1 h2 => by first | exact h2 | omega)
    replace hXL8 := Bel.out hXL8 x13 (fun g h1 h2 => by first | exact h2 | omega)
    refine Rg_nil (W_region ?_)
    refine Rg_run rfl (o_add rfl rfl (by first | omega | (unfold I64; omega) | (simp; done) | (simp; omega) | (simp at *; omega))) ?_
    refine Rg_run rfl (o_moveh (v := .int _ _) rfl) ?_
    refine Rg_nil ?_
    refine ⟨(k + 1, byS bs ((memW x 64).getD k 0)), ⟨?_, trivial⟩, ?_, ⟨?_, hXL8, ?_⟩, ?_⟩
    · first | rfl | (go_num) | (exact congrArg _ (by omega))
    · repeat (first | exact off_refl _ _ | exact off_mix | refine off_put rfl ?_ | refine off_putN ?_ | refine off_setL rfl ?_ | refine off_mix' rfl ?_)
    · exact ⟨by show k + 1 ≤ _; omega, by show _ = byL _ (List.take (k + 1) _); rw [byL_take (by omega), ← hbs]⟩
    · exact hown25
    · show (memW x 64).length - (k + 1) < (memW x 64).length - k; omega
  replace hc4 := of_decide_eq_false hc4
  rw [List.take_of_length_le (by omega)] at hbs
  refine W_exit (exAt_hit (W_seq (W_region ?_)))
  refine Rg_run rfl (o_moveh (v := .slice _ _ _) rfl) ?_
  refine Rg_run rfl (o_assignh (v := .slice _ _ _) rfl) ?_
  refine Rg_nil (W_ret ?_)
  refine ⟨_, res_tmp rfl rfl, ?_⟩
  rw [hbs, byL_set hx0] at hown25
  exact ⟨hown25.mono (fun g h1 h2 => by omega), hX⟩

theorem rputs_ok (v0 : Value) (G : Nat → Prop) (x : W64) (w : World) (hl0 : Rd encJ 1 G w v0 (memW x 64)) : Ok Tryz.prog 60 #[v0] w fun v w' => Own encB 1 5 (Fsh w w') w' v (putB (setB x)) ∧ Ext False w w' := by
  refine Ok_of_W 6 Tryz.func60 rfl rfl rfl ?_
  have hX : Ext False w w := Bel.refl _ _
  refine W_seq (W_region ?_)
  refine Rg_run rfl o_assignc ?_
  refine Rg_nil (W_seq (W_region ?_))
  refine Rg_run rfl (o_moveh (v := v0) rfl) ?_
  refine Rg_enter rfl (o_call1 Tryz.call105 rfl) (Ok.mono (rsetb_ok _ _ x _ hl0) ?_)
  rintro v4 w1 ⟨hown4, x2⟩
  have z3 := Bel.size x2
  replace hX := Bel.ex hX x2
  replace hown4 := hown4.mono (D' := fun g => w.heap.size ≤ g) (fun g h1 h2 => by omega)
  refine Rg_enter rfl (o_call1 Tryz.call104 rfl) (Ok.mono (rputb_ok _ _ (setB x) _ (hown4.trd encB_ok) (by have := setB_len x; omega)) ?_)
  rintro v5 w4 ⟨hown5, x5⟩
  have z6 := Bel.size x5
  replace hX := Bel.ex hX x5
  replace hown5 := hown5.mono (D' := fun g => w.heap.size ≤ g) (fun g h1 h2 => by omega)
  refine Rg_run rfl (o_assignh (v := v5) rfl) ?_
  refine Rg_nil (W_ret ?_)
  refine ⟨_, res_tmp rfl rfl, ?_⟩
  exact ⟨hown5.mono (fun g h1 h2 => by omega), hX⟩

theorem r22bytes_ok (v0 : Value) (G : Nat → Prop) (m : List RS) (w : World) (hq : Rd encRs 3 G w v0 m) (hm : OkM m) : Ok Tryz.prog 20 #[v0] w fun v w' => Own encB 1 5 (Fsh w w') w' v (bytesM m) ∧ Ext False w w' := by
  obtain ⟨aq, cq, rfl, hq⟩ := hq
  replace hq := hq.mono (F' := fun g => g < w.heap.size) (fun g h1 h2 => h1)
  have hml := hm.len
  have hbk := fun k => bytesK_len (m := m) k hml
  refine Ok_of_W 36 Tryz.func20 rfl rfl rfl ?_
  have hX : Ext False w w := Bel.refl _ _
  refine W_seq (W_region ?_)
  refine Rg_run rfl o_assignc ?_
  refine Rg_nil (W_seq (W_region ?_))
  refine Rg_run rfl (o_moveh (v := .slice _ _ _) rfl) ?_
  refine Rg_run rfl (o_llen Tryz.underlying27 rfl) ?_
  refine Rg_run rfl (o_convV (n := m.length) Tryz.underlying3 Tryz.underlying50 rfl (by omega)) ?_
  refine Rg_enter rfl (o_call1 Tryz.call59 rfl) (Ok.mono (rput_ok (BitVec.ofNat 64 m.length) _) ?_)
  rintro v9 w1 ⟨hown9, x2⟩
  have z3 := Bel.size x2
  replace hX := Bel.ex hX x2
  replace hq := hq.ext x2
  replace hown9 := hown9.mono (D' := fun g => w.heap.size ≤ g) (fun g h1 h2 => by omega)
  refine Rg_run rfl (o_assignh (v := v9) rfl) ?_
  refine Rg_nil (W_seq (W_seq (W_region ?_)))
  refine Rg_run rfl (o_moveh (v := .slice _ _ _) rfl) ?_
  refine Rg_run rfl (o_llen Tryz.underlying27 rfl) ?_
  refine Rg_run rfl o_movec ?_
  refine Rg_nil (W_block ?_)
  refine W_for (α := Nat × Value) [(3, 3), (5, 5), (12, 34)] (fun q => [(12, .int .i64 (q.1 : Int)), (3, q.2)]) (fun q w' => (q.1 ≤ m.length) ∧ Bel False (fun g => w.heap.size ≤ g) w1 w' ∧ (Own encB 1 5 (fun g => w.heap.size ≤ g) w' q.2 (bytesK m (q.1)))) (fun q => m.length - q.1) (0, v9) ⟨rfl, rfl, trivial⟩ ⟨Nat.zero_le _, Bel.refl _ _, (by rw [bytesK_zero]; exact hown9)⟩ ?_
  rintro ⟨k, u⟩ fb6 w5 ⟨hk, hXL4, hown⟩
  dsimp only at *
  have z7 := Bel.size hXL4
  replace hX := Bel.out hX hXL4 (fun g h1 h2 => by first | exact h2 | omega)
  replace hq := hq.keep hXL4 (fun g h1 h2 h3 => by omega)
  refine W_seq (W_region ?_)
  refine Rg_run rfl (o_lss rfl rfl) ?_
  refine Rg_nil (W_seq ?_)
  refine W_cond rfl (fun hc1 => ?_) (fun hc1 => ?_)
  · skip
    replace hc1 := of_decide_eq_true hc1
    refine W_skip (W_seq (W_block (W_seq (W_region ?_))))
    have hsn := hm.rng _ (gm (z := rz) (show k < m.length by omega))
    have hsu := hm.usr _ (gm (z := rz) (show k < m.length by omega))
    have hbk1 := hbk k
    have hp1 := putU_len (BitVec.ofNat 64 (m.getD k rz).n.toNat); have hp2 := putU_len (BitVec.ofNat 64 (m.getD k rz).u.toNat); have hp3 := putB_len (setB (m.getD k rz).x); have hp4 := setB_len (m.getD k rz).x
    refine Rg_run rfl (o_iaR Tryz.underlying27 Tryz.sizeOf52 hq rfl rfl (by first | omega | (unfold I64; omega) | (simp; done) | (simp; omega) | (simp at *; omega))) ?_
    refine Rg_run rfl (o_ldRS Tryz.isAgg52 Tryz.sizeOf52 hq rfl (getE rz (by omega))) ?_
    refine Rg_alst rfl rfl Tryz.zeroValue52 rfl Tryz.sizeOf52 (fun _ => rfl) rfl rfl ?_
    intro b5 w8 x9 hge5 hb5
    replace hown := hown.mono (D' := fun g => w.heap.size ≤ g ∧ g ≠ b5) (fun g h1 h2 => by omega)
    have hlt5 := hb5.lt
    change Box _ _ _ (encRs _) at hb5
    have z10 := Bel.size x9
    replace hX := Bel.ex hX x9
    replace hXL4 := Bel.ex hXL4 x9
    replace hown := hown.ext x9
    refine Rg_nil (W_seq (W_region ?_))
    refine Rg_run rfl (o_moveh (v := u) rfl) ?_
    refine Rg_run rfl (o_fa Tryz.underlying52 rfl Tryz.sizeOf3 rfl) ?_
    refine Rg_run rfl (o_load1 Tryz.isAgg3 rfl (hb5.at.get 0 rfl)) ?_
    refine Rg_run rfl (o_convI Tryz.underlying3 Tryz.underlying50 rfl (by omega) (by omega)) ?_
    refine Rg_enter rfl (o_call1 Tryz.call59 rfl) (Ok.mono (rput_ok (BitVec.ofNat 64 (m.getD k rz).n.toNat) _) ?_)
    rintro v20 w11 ⟨hown20, x12⟩
    have z13 := Bel.size x12
    replace hX := Bel.ex hX x12
    replace hXL4 := Bel.ex hXL4 x12
    replace hown := hown.ext x12
    replace hb5 := hb5.ext x12
    replace hown20 := hown20.mono (D' := fun g => w.heap.size ≤ g) (fun g h1 h2 => by omega)
    obtain ⟨a20, c20, hv20, -⟩ := hown20.sl encB_ok
    subst hv20
    refine Rg_app rfl encB_ok el_b8 rfl rfl hown (hown20.slA encB_ok) rfl (by first | omega | (simp only [List.length_append, List.length_cons, List.length_nil]; omega)) (fun g h => by omega) ?_
    intro v21 w14 x15 hown
    have z16 := Bel.size x15
    replace hX := Bel.out hX x15 (fun g h1 h2 => by first | exact h2 | omega)
    replace hXL4 := Bel.out hXL4 x15 (fun g h1 h2 => by first | exact h2 | omega)
    replace hb5 := hb5.keep x15 (fun h => by omega)
    refine Rg_run rfl (o_assignh (v := v21) rfl) ?_
    refine Rg_nil (W_seq (W_region ?_))
    refine Rg_run rfl (o_moveh (v := v21) rfl) ?_
    refine Rg_run rfl (o_fa Tryz.underlying52 rfl Tryz.sizeOf3 rfl) ?_
    refine Rg_run rfl (o_load1 Tryz.isAgg3 rfl (hb5.at.get 1 rfl)) ?_
    refine Rg_run rfl (o_convI Tryz.underlying3 Tryz.underlying50 rfl (by omega) (by omega)) ?_
    refine Rg_enter rfl (o_call1 Tryz.call59 rfl) (Ok.mono (rput_ok (BitVec.ofNat 64 (m.getD k rz).u.toNat) _) ?_)
    rintro v26 w17 ⟨hown26, x18⟩
    have z19 := Bel.size x18
    replace hX := Bel.ex hX x18
    replace hXL4 := Bel.ex hXL4 x18
    replace hown := hown.ext x18
    replace hb5 := hb5.ext x18
    replace hown26 := hown26.mono (D' := fun g => w.heap.size ≤ g) (fun g h1 h2 => by omega)
    obtain ⟨a26, c26, hv26, -⟩ := hown26.sl encB_ok
    subst hv26
    refine Rg_app rfl encB_ok el_b8 rfl rfl hown (hown26.slA encB_ok) rfl (by first | omega | (simp only [List.length_append, List.length_cons, List.length_nil]; omega)) (fun g h => by omega) ?_
    intro v27 w20 x21 hown
    have z22 := Bel.size x21
    replace hX := Bel.out hX x21 (fun g h1 h2 => by first | exact h2 | omega)
    replace hXL4 := Bel.out hXL4 x21 (fun g h1 h2 => by first | exact h2 | omega)
    replace hb5 := hb5.keep x21 (fun h => by omega)
    refine Rg_run rfl (o_assignh (v := v27) rfl) ?_
    refine Rg_nil (W_region ?_)
    refine Rg_run rfl (o_moveh (v := v27) rfl) ?_
    refine Rg_run rfl (o_fa Tryz.underlying52 rfl Tryz.sizeOf50 rfl) ?_
    refine Rg_run rfl (o_load1 Tryz.isAgg50 rfl (hb5.at.get 2 rfl)) ?_
    refine Rg_enter rfl (o_call1 Tryz.call61 rfl) (Ok.mono (rmem_ok (m.getD k rz).x _) ?_)
    rintro v31 w23 ⟨hown31, x24⟩
    have z25 := Bel.size x24
    replace hX := Bel.ex hX x24
    replace hXL4 := Bel.ex hXL4 x24
    replace hown := hown.ext x24
    replace hown31 := hown31.mono (D' := fun g => w.heap.size ≤ g) (fun g h1 h2 => by omega)
    refine Rg_enter rfl (o_call1 Tryz.call60 rfl) (Ok.mono (rputs_ok _ _ (m.getD k rz).x _ (hown31.trd encJ_ok)) ?_)
    rintro v32 w26 ⟨hown32, x27⟩
    have z28 := Bel.size x27
    replace hX := Bel.ex hX x27
    replace hXL4 := Bel.ex hXL4 x27
    replace hown := hown.ext x27
    replace hown32 := hown32.mono (D' := fun g => w.heap.size ≤ g) (fun g h1 h2 => by omega)
    obtain ⟨a32, c32, hv32, -⟩ := hown32.sl encB_ok
    subst hv32
    refine Rg_app rfl encB_ok el_b8 rfl rfl hown (hown32.slA encB_ok) rfl (by first | omega | (simp only [List.length_append, List.length_cons, List.length_nil]; omega)) (fun g h => by omega) ?_
    intro v33 w29 x30 hown
    have z31 := Bel.size x30
    replace hX := Bel.out hX x30 (fun g h1 h2 => by first | exact h2 | omega)
    replace hXL4 := Bel.out hXL4 x30 (fun g h1 h2 => by first | exact h2 | omega)
    refine Rg_run rfl (o_assignh (v := v33) rfl) ?_
    refine Rg_nil (W_region ?_)
    refine Rg_run rfl (o_add rfl rfl (by first | omega | (unfold I64; omega) | (simp; done) | (simp; omega) | (simp at *; omega))) ?_
    refine Rg_run rfl (o_moveh (v := .int _ _) rfl) ?_
    refine Rg_nil ?_
    refine ⟨(k + 1, v33), ⟨?_, ?_, trivial⟩, ?_, ⟨?_, hXL4, ?_⟩, ?_⟩
    · first | rfl | (go_num) | (exact congrArg _ (by omega))
    · first | rfl | (go_num) | (exact congrArg _ (by omega))
    · repeat (first | exact off_refl _ _ | exact off_mix | refine off_put rfl ?_ | refine off_putN ?_ | refine off_setL rfl ?_ | refine off_mix' rfl ?_)
    · show k + 1 ≤ m.length; omega
    · show Own _ _ _ _ _ _ (bytesK m (k + 1)); rw [bytesK_succ (by omega)]; exact hown.mono (fun g h1 h2 => h2.1)
    · show m.length - (k + 1) < m.length - k; omega
  replace hc1 := of_decide_eq_false hc1
  refine W_exit (exAt_hit (W_seq (W_region ?_)))
  refine Rg_run rfl (o_moveh (v := u) rfl) ?_
  refine Rg_run rfl (o_assignh (v := u) rfl) ?_
  refine Rg_nil (W_ret ?_)
  refine ⟨_, res_tmp rfl rfl, ?_⟩
  rw [bytesK_end (by omega)] at hown
  exact ⟨hown.mono (fun g h1 h2 => by omega), hX⟩

end Go.Proofs.YtncmjgmlnnenhaaGreatDoor
