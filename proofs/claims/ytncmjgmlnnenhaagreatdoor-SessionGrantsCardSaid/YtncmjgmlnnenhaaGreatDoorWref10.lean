/- Walks, printed by program: each theorem says what a function of the translation returns. -/
import Derived.Test.YtncmjgmlnnenhaaGreatDoorWnew
namespace Go.Proofs.YtncmjgmlnnenhaaGreatDoor
open Go Go.Lx Go.RowKit
set_option maxRecDepth 100000
set_option linter.unusedVariables false
set_option linter.unusedSimpArgs false
set_option linter.unnecessarySimpa false
theorem r10role_ok (w : World) (r : Int) : Ok Tryz.prog 155 #[.int .i64 r] w fun v w' => v = .bool (decide (1 ≤ r) && decide (r ≤ 63)) ∧ Ext False w w' := by
  refine Ok_of_W 9 Tryz.func155 rfl rfl rfl ?_
  have hX : Ext False w w := Bel.refl _ _
  refine W_seq (W_region ?_)
  refine Rg_run rfl o_assignc ?_
  refine Rg_nil (W_seq (W_region ?_))
  refine Rg_run rfl (o_moveh (v := .int _ _) rfl) ?_
  refine Rg_run rfl (o_geq rfl rfl) ?_
  refine Rg_run rfl (o_moveh (v := .bool _) rfl) ?_
  refine Rg_may 2 5 rfl rfl rfl (fun hg => (o_moveh (v := .int _ _) rfl)) ?_
  refine Rg_may 2 5 rfl rfl rfl (fun hg => (o_leq (gsel (u := undef) hg) rfl)) ?_
  refine Rg_run rfl (o_and (u := undef) rfl rfl) ?_
  refine Rg_run rfl (o_assignh (v := .bool _) rfl) ?_
  refine Rg_nil (W_ret ?_)
  refine ⟨_, res_tmp rfl rfl, ?_⟩
  refine ⟨congrArg Value.bool ?_, hX⟩
  all_goals (rfl)

theorem r10has_ok (a : Option Addr) (c : Nat) (B : Nat → Prop) (L : List Pr) (x y : Fin 64) (w : World) (hs : Sl encPr 2 B w a c L) : Ok Tryz.prog 156 #[.slice a L.length c, .int .i64 (iv x), .int .i64 (iv y)] w fun v w' => v = .bool (L.any fun z => z == (x, y)) ∧ Ext False w w' := by
  have hlen := hs.len
  refine Ok_of_W 26 Tryz.func156 rfl rfl rfl ?_
  have hX : Ext False w w := Bel.refl _ _
  refine W_seq (W_region ?_)
  refine Rg_run rfl o_assignc ?_
  refine Rg_nil (W_seq (W_seq (W_region ?_)))
  refine Rg_run rfl (o_moveh (v := .slice _ _ _) rfl) ?_
  refine Rg_run rfl (o_llen Tryz.underlying66 rfl) ?_
  refine Rg_run rfl o_movec ?_
  refine Rg_nil (W_block ?_)
  refine W_for (α := Nat) [(6, 6), (8, 8), (11, 25)] (fun k => [(11, .int .i64 (k : Int))]) (fun k w' => (k ≤ L.length ∧ (L.take k).any (fun z => z == (x, y)) = false) ∧ Ext False w w') (fun k => L.length - k) 0 ⟨rfl, trivial⟩ ⟨⟨by omega, by simp⟩, Bel.refl _ _⟩ ?_
  rintro k fb3 w2 ⟨⟨hk, hall⟩, hXL1⟩
  replace hX := Bel.ex hX hXL1
  replace hs := hs.ext hXL1
  refine W_seq (W_region ?_)
  refine Rg_run rfl (o_lss rfl rfl) ?_
  refine Rg_nil (W_seq ?_)
  refine W_cond rfl (fun hc1 => ?_) (fun hc1 => ?_)
  · skip
    replace hc1 := of_decide_eq_true hc1
    refine W_skip (W_seq (W_block (W_seq (W_region ?_))))
    refine Rg_run rfl (o_iaR Tryz.underlying66 Tryz.sizeOf127 hs rfl rfl (by first | omega | (unfold I64; omega) | (simp; done) | (simp; omega) | (simp at *; omega))) ?_
    refine Rg_run rfl (o_ldRS Tryz.isAgg127 Tryz.sizeOf127 hs rfl (getE pz0 (by omega))) ?_
    refine Rg_alst rfl rfl Tryz.zeroValue127 rfl Tryz.sizeOf127 (fun _ => rfl) rfl rfl ?_
    intro b8 w4 x5 hge8 hb8
    change Box _ _ _ (encPr _) at hb8
    replace hX := Bel.ex hX x5
    replace hXL1 := Bel.ex hXL1 x5
    replace hs := hs.ext x5
    refine Rg_nil (W_seq (W_region ?_))
    refine Rg_run rfl (o_iaA (i := 0) Tryz.underlying127 Tryz.sizeOf3 rfl rfl (by decide)) ?_
    refine Rg_run rfl (o_load1 Tryz.isAgg3 rfl (hb8.at.get 0 rfl)) ?_
    refine Rg_run rfl (o_moveh (v := .int _ _) rfl) ?_
    refine Rg_run rfl (o_eql rfl rfl) ?_
    refine Rg_run rfl (o_moveh (v := .bool _) rfl) ?_
    refine Rg_may 4 19 rfl rfl rfl (fun hg => (o_iaA (i := 1) Tryz.underlying127 Tryz.sizeOf3 rfl rfl (by decide))) ?_
    refine Rg_may 4 19 rfl rfl rfl (fun hg => (o_load1 Tryz.isAgg3 (gsel (u := undef) hg) (hb8.at.get 1 rfl))) ?_
    refine Rg_may 4 19 rfl rfl rfl (fun hg => (o_moveh (v := .int _ _) rfl)) ?_
    refine Rg_may 4 19 rfl rfl rfl (fun hg => (o_eql (gsel (u := undef) hg) (gsel (u := undef) hg))) ?_
    refine Rg_run rfl (o_and (u := undef) rfl rfl) ?_
    refine Rg_nil ?_
    refine W_cond rfl (fun hc2 => ?_) (fun hc2 => ?_)
    · skip
      rw [prB] at hc2
      refine W_seq (W_region ?_)
      refine Rg_run rfl o_assignc ?_
      refine Rg_nil (W_ret ?_)
      refine ⟨_, res_tmp rfl rfl, ?_⟩
      refine ⟨congrArg Value.bool ?_, hX⟩
      all_goals (exact (List.any_eq_true.2 ⟨_, gm (show k < L.length by omega), hc2⟩).symm)
    rw [prB] at hc2
    refine W_skip (W_region ?_)
    refine Rg_run rfl (o_add rfl rfl (by first | omega | (unfold I64; omega) | (simp; done) | (simp; omega) | (simp at *; omega))) ?_
    refine Rg_run rfl (o_moveh (v := .int _ _) rfl) ?_
    refine Rg_nil ?_
    refine ⟨k + 1, ⟨?_, trivial⟩, ?_, ⟨?_, hXL1⟩, ?_⟩
    · first | rfl | (go_num) | (exact congrArg _ (by omega))
    · repeat (first | exact off_refl _ _ | exact off_mix | refine off_put rfl ?_ | refine off_putN ?_ | refine off_setL rfl ?_ | refine off_mix' rfl ?_)
    · exact ⟨by omega, anyT_succ (by omega) hall (by simpa [List.getD, show k < L.length by omega] using hc2)⟩
    · omega
  replace hc1 := of_decide_eq_false hc1
  refine W_exit (exAt_hit (W_seq (W_region ?_)))
  refine Rg_run rfl o_assignc ?_
  refine Rg_nil (W_ret ?_)
  refine ⟨_, res_tmp rfl rfl, ?_⟩
  refine ⟨congrArg Value.bool ?_, hX⟩
  all_goals (rw [List.take_of_length_le (by omega)] at hall; exact hall.symm)

theorem r10jun_ok (a : Option Addr) (c : Nat) (B : Nat → Prop) (L : List Pr) (r : Fin 64) (J : W64) (w : World) (hs : Sl encPr 2 B w a c L) (hJ : JunIs L r J) (hr : 1 ≤ r.val) : Ok Tryz.prog 180 #[.slice a L.length c, .int .i64 (iv r)] w fun v w' => v = u64 J ∧ Ext False w w' := by
  have hlen := hs.len
  have hr1 : 1 ≤ iv r ∧ iv r < 64 := by unfold iv; have := r.isLt; omega
  refine Ok_of_W 38 Tryz.func180 rfl rfl rfl ?_
  have hX : Ext False w w := Bel.refl _ _
  refine W_seq (W_region ?_)
  refine Rg_run rfl o_assignc ?_
  refine Rg_nil (W_seq (W_seq (W_region ?_)))
  refine Rg_run rfl (o_moveh (v := .int _ _) rfl) ?_
  refine Rg_enter rfl (o_call1 Tryz.call155 rfl) (Ok.mono (r10role_ok _ _) ?_)
  rintro _ w1 ⟨rfl, x2⟩
  replace hX := Bel.ex hX x2
  replace hs := hs.ext x2
  refine Rg_run rfl (o_not rfl) ?_
  refine Rg_nil ?_
  refine W_cond_false (congrArg Value.bool (by simp; omega)) ?_
  refine W_skip (W_seq (W_region ?_))
  refine Rg_run rfl (o_moveh (v := .int _ _) rfl) ?_
  refine Rg_run rfl (o_shlU (a := BitVec.ofNat 64 1) rfl rfl r.isLt) ?_
  refine Rg_run rfl (o_assignh (v := .int _ _) rfl) ?_
  refine Rg_nil (W_block ?_)
  refine W_for (α := W64) [(4, 6), (8, 8), (14, 37)] (fun s => [(5, u64 s)]) (fun s w' => (JIn L r s) ∧ Ext False w1 w') (fun s => 2 ^ 64 - s.toNat) (oneW r.val) ⟨rfl, trivial⟩ ⟨JIn.start _ _, Bel.refl _ _⟩ ?_
  rintro s fb5 w4 ⟨hj, hXL3⟩
  replace hX := Bel.ex hX hXL3
  replace hs := hs.ext hXL3
  refine W_block (W_seq (W_region ?_))
  refine Rg_run rfl (o_moveh (v := .int _ _) rfl) ?_
  refine Rg_run rfl (o_assignh (v := .int _ _) rfl) ?_
  refine Rg_nil (W_seq (W_seq (W_region ?_)))
  refine Rg_run rfl (o_moveh (v := .slice _ _ _) rfl) ?_
  refine Rg_run rfl (o_llen Tryz.underlying66 rfl) ?_
  refine Rg_run rfl o_movec ?_
  refine Rg_nil (W_block ?_)
  refine W_for (α := Nat) [(6, 6), (8, 8), (17, 32)] (fun k => [(17, .int .i64 (k : Int)), (6, u64 (nxt (L.take k) s))]) (fun k w' => (k ≤ L.length) ∧ Ext False w4 w') (fun k => L.length - k) 0 ⟨rfl, rfl, trivial⟩ ⟨Nat.zero_le _, Bel.refl _ _⟩ ?_
  rintro k fb8 w7 ⟨hk, hXL6⟩
  replace hX := Bel.ex hX hXL6
  replace hXL3 := Bel.ex hXL3 hXL6
  replace hs := hs.ext hXL6
  refine W_seq (W_region ?_)
  refine Rg_run rfl (o_lss rfl rfl) ?_
  refine Rg_nil (W_seq ?_)
  refine W_cond rfl (fun hc2 => ?_) (fun hc2 => ?_)
  · skip
    replace hc2 := of_decide_eq_true hc2
    refine W_skip (W_seq (W_block (W_seq (W_region ?_))))
    refine Rg_run rfl (o_iaR Tryz.underlying66 Tryz.sizeOf127 hs rfl rfl (by first | omega | (unfold I64; omega) | (simp; done) | (simp; omega) | (simp at *; omega))) ?_
    refine Rg_run rfl (o_ldRS Tryz.isAgg127 Tryz.sizeOf127 hs rfl (getE pz0 (by omega))) ?_
    refine Rg_alst rfl rfl Tryz.zeroValue127 rfl Tryz.sizeOf127 (fun _ => rfl) rfl rfl ?_
    intro b8 w9 x10 hge8 hb8
    change Box _ _ _ (encPr _) at hb8
    replace hX := Bel.ex hX x10
    replace hXL3 := Bel.ex hXL3 x10
    replace hXL6 := Bel.ex hXL6 x10
    refine Rg_nil (W_seq (W_region ?_))
    refine Rg_run rfl (o_moveh (v := .int _ _) rfl) ?_
    refine Rg_run rfl (o_iaA (i := 0) Tryz.underlying127 Tryz.sizeOf3 rfl rfl (by decide)) ?_
    refine Rg_run rfl (o_load1 Tryz.isAgg3 rfl (hb8.at.get 0 rfl)) ?_
    refine Rg_run rfl (o_shrU rfl rfl (L.getD k pz0).1.isLt) ?_
    refine Rg_run rfl (o_uremU (b := BitVec.ofNat 64 2) rfl rfl (by decide)) ?_
    refine Rg_run rfl (o_eqU (b := BitVec.ofNat 64 1) rfl rfl) ?_
    refine Rg_nil ?_
    refine W_cond rfl (fun hc3 => ?_) (fun hc3 => ?_)
    · skip
      rw [bit_rem] at hc3
      refine W_region ?_
      refine Rg_run rfl (o_moveh (v := .int _ _) rfl) ?_
      refine Rg_run rfl (o_iaA (i := 1) Tryz.underlying127 Tryz.sizeOf3 rfl rfl (by decide)) ?_
      refine Rg_run rfl (o_load1 Tryz.isAgg3 rfl (hb8.at.get 1 rfl)) ?_
      refine Rg_run rfl (o_shlU (a := BitVec.ofNat 64 1) rfl rfl (L.getD k pz0).2.isLt) ?_
      refine Rg_run rfl (o_bor rfl rfl) ?_
      refine Rg_run rfl (o_assignh (v := .int _ _) rfl) ?_
      refine Rg_nil (W_region ?_)
      refine Rg_run rfl (o_add rfl rfl (by first | omega | (unfold I64; omega) | (simp; done) | (simp; omega) | (simp at *; omega))) ?_
      refine Rg_run rfl (o_moveh (v := .int _ _) rfl) ?_
      refine Rg_nil ?_
      refine ⟨k + 1, ⟨?_, ?_, trivial⟩, ?_, ⟨?_, hXL6⟩, ?_⟩
      · first | rfl | (go_num) | (exact congrArg _ (by omega))
      · refine congrArg u64 ?_
        rw [nxt_succ (by omega)]
        first | (rw [if_pos hc3]; rfl) | (rw [if_neg (by rw [hc3]; simp)])
      · repeat (first | exact off_refl _ _ | exact off_mix | refine off_put rfl ?_ | refine off_putN ?_ | refine off_setL rfl ?_ | refine off_mix' rfl ?_)
      · show k + 1 ≤ L.length; omega
      · omega
    rw [bit_rem] at hc3
    refine W_skip (W_region ?_)
    refine Rg_run rfl (o_add rfl rfl (by first | omega | (unfold I64; omega) | (simp; done) | (simp; omega) | (simp at *; omega))) ?_
    refine Rg_run rfl (o_moveh (v := .int _ _) rfl) ?_
    refine Rg_nil ?_
    refine ⟨k + 1, ⟨?_, ?_, trivial⟩, ?_, ⟨?_, hXL6⟩, ?_⟩
    · first | rfl | (go_num) | (exact congrArg _ (by omega))
    · refine congrArg u64 ?_
      rw [nxt_succ (by omega)]
      first | (rw [if_pos hc3]; rfl) | (rw [if_neg (by rw [hc3]; simp)])
    · repeat (first | exact off_refl _ _ | exact off_mix | refine off_put rfl ?_ | refine off_putN ?_ | refine off_setL rfl ?_ | refine off_mix' rfl ?_)
    · show k + 1 ≤ L.length; omega
    · omega
  replace hc2 := of_decide_eq_false hc2
  refine W_exit (exAt_hit (W_seq (W_seq (W_region ?_))))
  have hkL : L.take k = L := List.take_of_length_le (by omega)
  rw [hkL]
  refine Rg_run rfl (o_moveh (v := .int _ _) rfl) ?_
  refine Rg_run rfl (o_moveh (v := .int _ _) rfl) ?_
  refine Rg_run rfl (o_eqU rfl rfl) ?_
  refine Rg_nil ?_
  refine W_cond rfl (fun hc4 => ?_) (fun hc4 => ?_)
  · skip
    refine W_seq (W_region ?_)
    refine Rg_run rfl (o_moveh (v := .int _ _) rfl) ?_
    refine Rg_run rfl (o_assignh (v := .int _ _) rfl) ?_
    refine Rg_nil (W_ret ?_)
    refine ⟨_, res_tmp rfl rfl, ?_⟩
    refine ⟨congrArg u64 ?_, hX⟩
    all_goals (exact (hj.done (by simpa using hc4)).uniq hJ)
  refine W_skip (W_region ?_)
  refine Rg_run rfl (o_moveh (v := .int _ _) rfl) ?_
  refine Rg_run rfl (o_assignh (v := .int _ _) rfl) ?_
  refine Rg_nil ?_
  refine ⟨nxt L s, ⟨?_, trivial⟩, ?_, ⟨?_, hXL3⟩, ?_⟩
  · first | rfl | (go_num) | (exact congrArg _ (by omega))
  · repeat (first | exact off_refl _ _ | exact off_mix | refine off_put rfl ?_ | refine off_putN ?_ | refine off_setL rfl ?_ | refine off_mix' rfl ?_)
  · exact hj.next
  · have h1 := nxt_lt (L := L) (s := s) (by simpa using hc4); have h2 := (nxt L s).isLt; omega

theorem r10imp_ok (a : Option Addr) (c : Nat) (B : Nat → Prop) (L : List Pr) (r s : Fin 64) (J : W64) (w : World) (hs : Sl encPr 2 B w a c L) (hJ : JunIs L r J) (hr : 1 ≤ r.val) (hr2 : 1 ≤ s.val) : Ok Tryz.prog 157 #[.slice a L.length c, .int .i64 (iv r), .int .i64 (iv s)] w fun v w' => v = .bool (J.getLsbD s.val) ∧ Ext False w w' := by
  have hr1 : 1 ≤ iv s ∧ iv s < 64 := by unfold iv; have := s.isLt; omega
  refine Ok_of_W 18 Tryz.func157 rfl rfl rfl ?_
  have hX : Ext False w w := Bel.refl _ _
  refine W_seq (W_region ?_)
  refine Rg_run rfl o_assignc ?_
  refine Rg_nil (W_seq (W_region ?_))
  refine Rg_run rfl (o_moveh (v := .int _ _) rfl) ?_
  refine Rg_enter rfl (o_call1 Tryz.call155 rfl) (Ok.mono (r10role_ok _ _) ?_)
  rintro _ w1 ⟨rfl, x2⟩
  replace hX := Bel.ex hX x2
  replace hs := hs.ext x2
  refine Rg_run rfl (o_moveh (v := .bool _) rfl) ?_
  refine Rg_on 2 9 rfl (congrArg Value.bool (by simp; omega)) ?_
  refine Rg_run rfl (o_moveh (v := .slice _ _ _) rfl) ?_
  refine Rg_on 2 9 rfl (congrArg Value.bool (by simp; omega)) ?_
  refine Rg_run rfl (o_moveh (v := .int _ _) rfl) ?_
  refine Rg_on 2 9 rfl (congrArg Value.bool (by simp; omega)) ?_
  refine Rg_enter rfl (o_call2 Tryz.call180 rfl rfl) (Ok.mono (r10jun_ok _ _ _ _ r J _ hs hJ hr) ?_)
  rintro _ w3 ⟨rfl, x4⟩
  replace hX := Bel.ex hX x4
  replace hs := hs.ext x4
  refine Rg_on 2 9 rfl (congrArg Value.bool (by simp; omega)) ?_
  refine Rg_run rfl (o_moveh (v := .int _ _) rfl) ?_
  refine Rg_on 2 9 rfl (congrArg Value.bool (by simp; omega)) ?_
  refine Rg_run rfl (o_shrU rfl rfl s.isLt) ?_
  refine Rg_on 2 9 rfl (congrArg Value.bool (by simp; omega)) ?_
  refine Rg_run rfl (o_uremU (b := BitVec.ofNat 64 2) rfl rfl (by decide)) ?_
  refine Rg_on 2 9 rfl (congrArg Value.bool (by simp; omega)) ?_
  refine Rg_run rfl (o_eqU (b := BitVec.ofNat 64 1) rfl rfl) ?_
  refine Rg_run rfl (o_pickT (v := .bool _) (congrArg Value.bool (by simp; omega)) rfl) ?_
  refine Rg_run rfl (o_assignh (v := .bool _) rfl) ?_
  refine Rg_nil (W_ret ?_)
  refine ⟨_, res_tmp rfl rfl, ?_⟩
  refine ⟨congrArg Value.bool ?_, hX⟩
  all_goals (exact bit_rem _ _)

theorem r10link_ok (v0 : Value) (B : Nat → Prop) (L : List Pr) (ρ : Fin 64 → Nat) (x y : Fin 64) (w : World) (hs : Rd encPr 2 B w v0 L) (hl : L.length ≤ 1000) (hL : LkOk L ρ) (hxy : ρ x < ρ y) (hp1 : 1 ≤ x.val) (hp2 : 1 ≤ y.val) : Ok Tryz.prog 120 #[v0, .int .i64 (iv x), .int .i64 (iv y)] w fun v w' => LkRes L (x, y) (fun b => B b ∨ Fsh w w' b) v w' ∧ Ext False w w' := by
  obtain ⟨a, c, rfl, hs⟩ := hs
  have hlen := hs.len
  have hx1 : 1 ≤ iv x ∧ iv x < 64 := by unfold iv; have := x.isLt; omega
  have hy1 : 1 ≤ iv y ∧ iv y < 64 := by unfold iv; have := y.isLt; omega
  have hne : x ≠ y := fun e => by rw [e] at hxy; exact Nat.lt_irrefl _ hxy
  obtain ⟨J, hJ⟩ := JunIs.ex L y
  have hac := hL.acyc hxy hJ
  refine Ok_of_W 80 Tryz.func120 rfl rfl rfl ?_
  have hX : Ext False w w := Bel.refl _ _
  refine W_seq (W_region ?_)
  refine Rg_run rfl o_assignc ?_
  refine Rg_run rfl o_assignc ?_
  refine Rg_nil (W_seq (W_seq (W_region ?_)))
  refine Rg_run rfl (o_moveh (v := .int _ _) rfl) ?_
  refine Rg_enter rfl (o_call1 Tryz.call155 rfl) (Ok.mono (r10role_ok _ _) ?_)
  rintro _ w1 ⟨rfl, x2⟩
  have z3 := Bel.size x2
  replace hX := Bel.ex hX x2
  replace hs := hs.ext x2
  refine Rg_run rfl (o_not rfl) ?_
  refine Rg_run rfl (o_moveh (v := .bool _) rfl) ?_
  refine Rg_on 3 12 rfl (congrArg Value.bool (by simp; omega)) ?_
  refine Rg_run rfl (o_moveh (v := .int _ _) rfl) ?_
  refine Rg_on 3 12 rfl (congrArg Value.bool (by simp; omega)) ?_
  refine Rg_enter rfl (o_call1 Tryz.call155 rfl) (Ok.mono (r10role_ok _ _) ?_)
  rintro _ w4 ⟨rfl, x5⟩
  have z6 := Bel.size x5
  replace hX := Bel.ex hX x5
  replace hs := hs.ext x5
  refine Rg_on 3 12 rfl (congrArg Value.bool (by simp; omega)) ?_
  refine Rg_run rfl (o_not rfl) ?_
  refine Rg_run rfl (o_pickF (v := .bool _) (congrArg Value.bool (by simp; omega)) rfl) ?_
  refine Rg_run rfl (o_moveh (v := .bool _) rfl) ?_
  refine Rg_on 8 17 rfl (congrArg Value.bool (by simp; omega)) ?_
  refine Rg_run rfl (o_moveh (v := .int _ _) rfl) ?_
  refine Rg_on 8 17 rfl (congrArg Value.bool (by simp; omega)) ?_
  refine Rg_run rfl (o_moveh (v := .int _ _) rfl) ?_
  refine Rg_on 8 17 rfl (congrArg Value.bool (by simp; omega)) ?_
  refine Rg_run rfl (o_eql rfl rfl) ?_
  refine Rg_run rfl (o_pickF (v := .bool _) (congrArg Value.bool (by simp; omega)) rfl) ?_
  refine Rg_nil ?_
  refine W_cond_false (congrArg Value.bool (by rw [iv_beq]; simpa using hne)) ?_
  refine W_skip (W_seq (W_seq (W_region ?_)))
  refine Rg_run rfl (o_moveh (v := .slice _ _ _) rfl) ?_
  refine Rg_run rfl (o_moveh (v := .int _ _) rfl) ?_
  refine Rg_run rfl (o_moveh (v := .int _ _) rfl) ?_
  refine Rg_enter rfl (o_call3 Tryz.call156 rfl rfl rfl) (Ok.mono (r10has_ok _ _ _ _ x y _ hs) ?_)
  rintro _ w7 ⟨rfl, x8⟩
  have z9 := Bel.size x8
  replace hX := Bel.ex hX x8
  replace hs := hs.ext x8
  refine Rg_nil ?_
  refine W_cond rfl (fun hc2 => ?_) (fun hc2 => ?_)
  · skip
    have hin : (x, y) ∈ L := by obtain ⟨z, hz, e⟩ := List.any_eq_true.1 hc2; rw [← eq_of_beq e]; exact hz
    refine W_seq (W_region ?_)
    refine Rg_run rfl (o_moveh (v := .slice _ _ _) rfl) ?_
    refine Rg_run rfl (o_assignh (v := .slice _ _ _) rfl) ?_
    refine Rg_run rfl o_assignc ?_
    refine Rg_nil (W_ret ?_)
    refine ⟨_, res_tmp2 rfl rfl rfl, ?_⟩
    exact ⟨⟨_, L, 5, rfl, (hs.mono (fun g h1 h2 => Or.inl h2)).rd, .inl ⟨hin, rfl⟩⟩, hX⟩
  have hin : (x, y) ∉ L := fun h => by have := List.any_eq_false.1 hc2 _ h; simp at this
  refine W_skip (W_seq (W_seq (W_region ?_)))
  refine Rg_run rfl (o_moveh (v := .slice _ _ _) rfl) ?_
  refine Rg_run rfl (o_moveh (v := .int _ _) rfl) ?_
  refine Rg_run rfl (o_moveh (v := .int _ _) rfl) ?_
  refine Rg_enter rfl (o_call3 Tryz.call157 rfl rfl rfl) (Ok.mono (r10imp_ok _ _ _ _ y x J _ hs hJ hp2 hp1) ?_)
  rintro _ w10 ⟨rfl, x11⟩
  have z12 := Bel.size x11
  replace hX := Bel.ex hX x11
  replace hs := hs.ext x11
  refine Rg_nil ?_
  refine W_cond_false (congrArg Value.bool hac) ?_
  refine W_skip (W_seq (W_region ?_))
  refine Rg_run rfl o_assignc ?_
  refine Rg_nil (W_seq (W_block ?_))
  refine W_for (α := Nat) [(8, 8), (33, 65)] (fun k => [(8, .int .i64 (k : Int))]) (fun k w' => (k ≤ L.length) ∧ Ext False w10 w') (fun k => L.length - k) 0 ⟨rfl, trivial⟩ ⟨Nat.zero_le _, Bel.refl _ _⟩ ?_
  rintro k fb15 w14 ⟨hk, hXL13⟩
  have z16 := Bel.size hXL13
  replace hX := Bel.ex hX hXL13
  replace hs := hs.ext hXL13
  refine W_seq (W_seq (W_region ?_))
  refine (Decidable.em (k < L.length)).elim (fun hf1 => ?_) (fun hf1 => ?_)
  · skip
    refine Rg_run rfl (o_moveh (v := .int _ _) rfl) ?_
    refine (Decidable.em (iv (L.getD k pz0).1 < iv x)).elim (fun hf2 => ?_) (fun hf2 => ?_)
    · skip
      refine Rg_run rfl (o_moveh (v := .slice _ _ _) rfl) ?_
      refine Rg_run rfl (o_llen Tryz.underlying66 rfl) ?_
      refine Rg_run rfl (o_lss rfl rfl) ?_
      refine Rg_run rfl (o_moveh (v := .bool _) rfl) ?_
      refine Rg_on 4 37 rfl (congrArg Value.bool (decide_eq_true (by omega))) ?_
      refine Rg_run rfl (o_moveh (v := .slice _ _ _) rfl) ?_
      refine Rg_on 4 37 rfl (congrArg Value.bool (decide_eq_true (by omega))) ?_
      refine Rg_run rfl (o_moveh (v := .int _ _) rfl) ?_
      refine Rg_on 4 37 rfl (congrArg Value.bool (decide_eq_true (by omega))) ?_
      refine Rg_run rfl (o_iaR Tryz.underlying66 Tryz.sizeOf127 hs rfl rfl (by first | omega | (unfold I64; omega) | (simp; done) | (simp; omega) | (simp at *; omega))) ?_
      refine Rg_on 4 37 rfl (congrArg Value.bool (decide_eq_true (by omega))) ?_
      refine Rg_run rfl (o_iaE (j := 0) Tryz.underlying127 Tryz.sizeOf3 hs rfl (getE pz0 (by omega)) rfl (by decide)) ?_
      refine Rg_on 4 37 rfl (congrArg Value.bool (decide_eq_true (by omega))) ?_
      refine Rg_run rfl (o_ldE (j := 0) Tryz.isAgg3 hs rfl (getE pz0 (by omega)) rfl) ?_
      refine Rg_on 4 37 rfl (congrArg Value.bool (decide_eq_true (by omega))) ?_
      refine Rg_run rfl (o_moveh (v := .int _ _) rfl) ?_
      refine Rg_on 4 37 rfl (congrArg Value.bool (decide_eq_true (by omega))) ?_
      refine Rg_run rfl (o_lss rfl rfl) ?_
      refine Rg_on 4 37 rfl (congrArg Value.bool (decide_eq_true (by omega))) ?_
      refine Rg_run rfl (o_moveh (v := .bool _) rfl) ?_
      refine Rg_off 12 45 rfl rfl (congrArg Value.bool (decide_eq_true hf2)) rfl rfl ?_
      refine Rg_off 12 45 rfl rfl (congrArg Value.bool (decide_eq_true hf2)) rfl rfl ?_
      refine Rg_off 12 45 rfl rfl (congrArg Value.bool (decide_eq_true hf2)) rfl rfl ?_
      refine Rg_off 12 45 rfl rfl (congrArg Value.bool (decide_eq_true hf2)) rfl rfl ?_
      refine Rg_off 12 45 rfl rfl (congrArg Value.bool (decide_eq_true hf2)) rfl rfl ?_
      refine Rg_off 12 45 rfl rfl (congrArg Value.bool (decide_eq_true hf2)) rfl rfl ?_
      refine Rg_off 12 45 rfl rfl (congrArg Value.bool (decide_eq_true hf2)) rfl rfl ?_
      refine Rg_off 12 45 rfl rfl (congrArg Value.bool (decide_eq_true hf2)) rfl rfl ?_
      refine Rg_offU 20 53 rfl rfl rfl rfl ?_
      refine Rg_offU 20 53 rfl rfl rfl rfl ?_
      refine Rg_offU 20 53 rfl rfl rfl rfl ?_
      refine Rg_offU 20 53 rfl rfl rfl rfl ?_
      refine Rg_offU 20 53 rfl rfl rfl rfl ?_
      refine Rg_offU 20 53 rfl rfl rfl rfl ?_
      refine Rg_offU 20 53 rfl rfl rfl rfl ?_
      refine Rg_off 12 45 rfl rfl (congrArg Value.bool (decide_eq_true hf2)) rfl rfl ?_
      refine Rg_on 4 37 rfl (congrArg Value.bool (decide_eq_true (by omega))) ?_
      refine Rg_run rfl (o_pickT (v := .bool _) (congrArg Value.bool (decide_eq_true hf2)) rfl) ?_
      refine Rg_run rfl (o_pickT (v := .bool _) (congrArg Value.bool (decide_eq_true (by omega))) rfl) ?_
      refine Rg_nil ?_
      refine W_cond_true rfl ?_
      refine W_skip (W_block (W_region ?_))
      refine Rg_run rfl (o_moveh (v := .int _ _) rfl) ?_
      refine Rg_run rfl (o_add rfl rfl (by unfold I64; omega)) ?_
      refine Rg_run rfl (o_assignh (v := .int _ _) rfl) ?_
      refine Rg_nil ?_
      refine ⟨k + 1, ⟨?_, trivial⟩, ?_, ⟨?_, hXL13⟩, ?_⟩
      · first | rfl | (go_num) | (exact congrArg _ (by omega))
      · repeat (first | exact off_refl _ _ | exact off_mix | refine off_put rfl ?_ | refine off_putN ?_ | refine off_setL rfl ?_ | refine off_mix' rfl ?_)
      · show k + 1 ≤ L.length; omega
      · omega
    refine Rg_run rfl (o_moveh (v := .slice _ _ _) rfl) ?_
    refine (Decidable.em (iv (L.getD k pz0).1 = iv x)).elim (fun hf3 => ?_) (fun hf3 => ?_)
    · skip
      refine Rg_run rfl (o_llen Tryz.underlying66 rfl) ?_
      refine Rg_run rfl (o_lss rfl rfl) ?_
      refine Rg_run rfl (o_moveh (v := .bool _) rfl) ?_
      refine Rg_on 4 37 rfl (congrArg Value.bool (decide_eq_true (by omega))) ?_
      refine Rg_run rfl (o_moveh (v := .slice _ _ _) rfl) ?_
      refine Rg_on 4 37 rfl (congrArg Value.bool (decide_eq_true (by omega))) ?_
      refine Rg_run rfl (o_moveh (v := .int _ _) rfl) ?_
      refine Rg_on 4 37 rfl (congrArg Value.bool (decide_eq_true (by omega))) ?_
      refine Rg_run rfl (o_iaR Tryz.underlying66 Tryz.sizeOf127 hs rfl rfl (by first | omega | (unfold I64; omega) | (simp; done) | (simp; omega) | (simp at *; omega))) ?_
      refine Rg_on 4 37 rfl (congrArg Value.bool (decide_eq_true (by omega))) ?_
      refine Rg_run rfl (o_iaE (j := 0) Tryz.underlying127 Tryz.sizeOf3 hs rfl (getE pz0 (by omega)) rfl (by decide)) ?_
      refine Rg_on 4 37 rfl (congrArg Value.bool (decide_eq_true (by omega))) ?_
      refine Rg_run rfl (o_ldE (j := 0) Tryz.isAgg3 hs rfl (getE pz0 (by omega)) rfl) ?_
      refine Rg_on 4 37 rfl (congrArg Value.bool (decide_eq_true (by omega))) ?_
      refine Rg_run rfl (o_moveh (v := .int _ _) rfl) ?_
      refine Rg_on 4 37 rfl (congrArg Value.bool (decide_eq_true (by omega))) ?_
      refine Rg_run rfl (o_lss rfl rfl) ?_
      refine Rg_on 4 37 rfl (congrArg Value.bool (decide_eq_true (by omega))) ?_
      refine Rg_run rfl (o_moveh (v := .bool _) rfl) ?_
      refine Rg_on 12 45 rfl (congrArg Value.bool (decide_eq_false hf2)) ?_
      refine Rg_run rfl (o_moveh (v := .slice _ _ _) rfl) ?_
      refine Rg_on 12 45 rfl (congrArg Value.bool (decide_eq_false hf2)) ?_
      refine Rg_run rfl (o_moveh (v := .int _ _) rfl) ?_
      refine Rg_on 12 45 rfl (congrArg Value.bool (decide_eq_false hf2)) ?_
      refine Rg_run rfl (o_iaR Tryz.underlying66 Tryz.sizeOf127 hs rfl rfl (by first | omega | (unfold I64; omega) | (simp; done) | (simp; omega) | (simp at *; omega))) ?_
      refine Rg_on 12 45 rfl (congrArg Value.bool (decide_eq_false hf2)) ?_
      refine Rg_run rfl (o_iaE (j := 0) Tryz.underlying127 Tryz.sizeOf3 hs rfl (getE pz0 (by omega)) rfl (by decide)) ?_
      refine Rg_on 12 45 rfl (congrArg Value.bool (decide_eq_false hf2)) ?_
      refine Rg_run rfl (o_ldE (j := 0) Tryz.isAgg3 hs rfl (getE pz0 (by omega)) rfl) ?_
      refine Rg_on 12 45 rfl (congrArg Value.bool (decide_eq_false hf2)) ?_
      refine Rg_run rfl (o_moveh (v := .int _ _) rfl) ?_
      refine Rg_on 12 45 rfl (congrArg Value.bool (decide_eq_false hf2)) ?_
      refine Rg_run rfl (o_eql rfl rfl) ?_
      refine Rg_on 12 45 rfl (congrArg Value.bool (decide_eq_false hf2)) ?_
      refine Rg_run rfl (o_moveh (v := .bool _) rfl) ?_
      refine Rg_on 20 53 rfl (congrArg Value.bool (beq_iff_eq.2 hf3)) ?_
      refine Rg_run rfl (o_moveh (v := .slice _ _ _) rfl) ?_
      refine Rg_on 20 53 rfl (congrArg Value.bool (beq_iff_eq.2 hf3)) ?_
      refine Rg_run rfl (o_moveh (v := .int _ _) rfl) ?_
      refine Rg_on 20 53 rfl (congrArg Value.bool (beq_iff_eq.2 hf3)) ?_
      refine Rg_run rfl (o_iaR Tryz.underlying66 Tryz.sizeOf127 hs rfl rfl (by first | omega | (unfold I64; omega) | (simp; done) | (simp; omega) | (simp at *; omega))) ?_
      refine Rg_on 20 53 rfl (congrArg Value.bool (beq_iff_eq.2 hf3)) ?_
      refine Rg_run rfl (o_iaE (j := 1) Tryz.underlying127 Tryz.sizeOf3 hs rfl (getE pz0 (by omega)) rfl (by decide)) ?_
      refine Rg_on 20 53 rfl (congrArg Value.bool (beq_iff_eq.2 hf3)) ?_
      refine Rg_run rfl (o_ldE (j := 1) Tryz.isAgg3 hs rfl (getE pz0 (by omega)) rfl) ?_
      refine Rg_on 20 53 rfl (congrArg Value.bool (beq_iff_eq.2 hf3)) ?_
      refine Rg_run rfl (o_moveh (v := .int _ _) rfl) ?_
      refine Rg_on 20 53 rfl (congrArg Value.bool (beq_iff_eq.2 hf3)) ?_
      refine Rg_run rfl (o_lss rfl rfl) ?_
      refine Rg_on 12 45 rfl (congrArg Value.bool (decide_eq_false hf2)) ?_
      refine Rg_run rfl (o_pickT (v := .bool _) (congrArg Value.bool (beq_iff_eq.2 hf3)) rfl) ?_
      refine Rg_on 4 37 rfl (congrArg Value.bool (decide_eq_true (by omega))) ?_
      refine Rg_run rfl (o_pickF (v := .bool _) (congrArg Value.bool (decide_eq_false hf2)) rfl) ?_
      refine Rg_run rfl (o_pickT (v := .bool _) (congrArg Value.bool (decide_eq_true (by omega))) rfl) ?_
      refine Rg_nil ?_
      refine W_cond rfl (fun hc5 => ?_) (fun hc5 => ?_)
      · skip
        refine W_skip (W_block (W_region ?_))
        refine Rg_run rfl (o_moveh (v := .int _ _) rfl) ?_
        refine Rg_run rfl (o_add rfl rfl (by unfold I64; omega)) ?_
        refine Rg_run rfl (o_assignh (v := .int _ _) rfl) ?_
        refine Rg_nil ?_
        refine ⟨k + 1, ⟨?_, trivial⟩, ?_, ⟨?_, hXL13⟩, ?_⟩
        · first | rfl | (go_num) | (exact congrArg _ (by omega))
        · repeat (first | exact off_refl _ _ | exact off_mix | refine off_put rfl ?_ | refine off_putN ?_ | refine off_setL rfl ?_ | refine off_mix' rfl ?_)
        · show k + 1 ≤ L.length; omega
        · omega
      refine W_exit (exAt_hit (W_seq ?_))
      obtain ⟨n1, hn1⟩ : ∃ n, n = w14.heap.size := ⟨_, rfl⟩
      apply W_drawC (β := False) (fun _ => 0) [(fun v w c => ∃ a, v = .slice a 0 0 ∧ postOwn encPr 2 127 1 ([] : List Pr) v w c), peqC _, peqC _, peqC _, (postOwn encPr 2 127 1 (L.take k)), peqC _, peqC _, peqC _, (fun v w c => ∃ a, v = .slice a 1 1 ∧ postOwn encPr 2 127 0 [(x, y)] v w c), (postOwn encPr 2 127 1 (L.take k ++ [(x, y)])), peqC _, peqC _, peqC _, (postOwn encPr 2 127 1 (L.take k ++ [(x, y)] ++ L.drop k))] [1, 0, 0, 0, 1, 0, 0, 0, 0, 1, 0, 0, 0, 1] 14 mixed (by kernel_rfl) (by kernel_rfl) rfl ⟨(postBs_stable), peqC_stable _ _, peqC_stable _ _, peqC_stable _ _, (postOwn_stable), peqC_stable _ _, peqC_stable _ _, peqC_stable _ _, (postBs_stable), (postOwn_stable), peqC_stable _ _, peqC_stable _ _, peqC_stable _ _, (postOwn_stable), trivial⟩ ?ob10 ?fin10
      case ob10 =>
        refine OblC_cons (fun w17 c19 x18 hc020 hk21 => ?_) ?_
        · skip
          replace x18 := RelG.ext0 x18
          have z22 := Bel.size x18
          refine bindC_nil ?_
          exact OpC_bs (vs := []) ([] : List Pr) encPr_ok el_pr rfl rfl trivial rfl rfl rfl rfl
        refine OblC_cons (fun w23 c25 x24 hc026 hk27 => ?_) ?_
        · skip
          replace x24 := RelG.ext0 x24
          have z28 := Bel.size x24
          refine bindC_nil ?_
          exact OpC_v rfl (o_moveh (v := .slice _ _ _) rfl)
        refine OblC_cons (fun w29 c31 x30 hc032 hk33 => ?_) ?_
        · skip
          replace x30 := RelG.ext0 x30
          have z34 := Bel.size x30
          refine bindC_nil ?_
          exact OpC_v rfl (o_moveh (v := .int _ _) rfl)
        refine OblC_cons (fun w35 c37 x36 hc038 hk39 => ?_) ?_
        · skip
          replace x36 := RelG.ext0 x36
          have z40 := Bel.size x36
          have hs := hs.ext x36
          refine bindC_eq (bindC_eq (bindC_nil ?_))
          exact OpC_v rfl (o_slto (j := k) Tryz.underlying66 Tryz.sizeOf127 rfl rfl (by have := hs.le; omega))
        refine OblC_cons (fun w41 c43 x42 hc044 hk45 => ?_) ?_
        · skip
          replace x42 := RelG.ext0 x42
          have z46 := Bel.size x42
          have hs := hs.ext x42
          refine bindC_mem (fun v66 hv66 => ?_)
          refine bindC_eq (bindC_nil ?_)
          obtain ⟨a66, rfl, ho66⟩ := hv66
          exact OpC_app (l := []) (news := L.take k) (by decide) encPr_ok el_pr rfl rfl ho66 (hs.take k) (by rw [List.length_take]; omega) (by simp; omega)
        refine OblC_cons (fun w47 c49 x48 hc050 hk51 => ?_) ?_
        · skip
          replace x48 := RelG.ext0 x48
          have z52 := Bel.size x48
          refine bindC_nil ?_
          exact OpC_v rfl (o_moveh (v := .int _ _) rfl)
        refine OblC_cons (fun w53 c55 x54 hc056 hk57 => ?_) ?_
        · skip
          replace x54 := RelG.ext0 x54
          have z58 := Bel.size x54
          refine bindC_nil ?_
          exact OpC_v rfl (o_moveh (v := .int _ _) rfl)
        refine OblC_cons (fun w59 c61 x60 hc062 hk63 => ?_) ?_
        · skip
          replace x60 := RelG.ext0 x60
          have z64 := Bel.size x60
          refine bindC_eq (bindC_eq (bindC_nil ?_))
          exact OpC_v rfl (o_build (cells := encPr (x, y)) (vs := [(0, .int _ _), (1, .int _ _)]) rfl (by kernel_rfl))
        refine OblC_cons (fun w65 c67 x66 hc068 hk69 => ?_) ?_
        · skip
          replace x66 := RelG.ext0 x66
          have z70 := Bel.size x66
          refine bindC_eq (bindC_nil ?_)
          exact OpC_bs (vs := [.agg _]) [(x, y)] encPr_ok el_pr rfl rfl ⟨rfl, trivial⟩ rfl rfl rfl rfl
        refine OblC_cons (fun w71 c73 x72 hc074 hk75 => ?_) ?_
        · skip
          replace x72 := RelG.ext0 x72
          have z76 := Bel.size x72
          refine bindC_mem (fun v70 hv70 => ?_)
          refine bindC_mem (fun v74 hv74 => ?_)
          refine bindC_mem (fun v70 hv70 => ?_)
          refine bindC_nil ?_
          obtain ⟨a74, rfl, ho74⟩ := hv74
          exact OpC_app (by decide) encPr_ok el_pr rfl rfl hv70 (Own.slA ho74 encPr_ok) rfl (by simp; omega)
        refine OblC_cons (fun w77 c79 x78 hc080 hk81 => ?_) ?_
        · skip
          replace x78 := RelG.ext0 x78
          have z82 := Bel.size x78
          refine bindC_nil ?_
          exact OpC_v rfl (o_moveh (v := .slice _ _ _) rfl)
        refine OblC_cons (fun w83 c85 x84 hc086 hk87 => ?_) ?_
        · skip
          replace x84 := RelG.ext0 x84
          have z88 := Bel.size x84
          refine bindC_nil ?_
          exact OpC_v rfl (o_moveh (v := .int _ _) rfl)
        refine OblC_cons (fun w89 c91 x90 hc092 hk93 => ?_) ?_
        · skip
          replace x90 := RelG.ext0 x90
          have z94 := Bel.size x90
          have hs := hs.ext x90
          refine bindC_eq (bindC_eq (bindC_nil ?_))
          exact OpC_v rfl (o_slfrom2 (j := k) Tryz.underlying66 Tryz.sizeOf127 rfl rfl hk hs.le)
        refine OblC_cons (fun w95 c97 x96 hc098 hk99 => ?_) ?_
        · skip
          replace x96 := RelG.ext0 x96
          have z100 := Bel.size x96
          have hs := hs.ext x96
          refine bindC_mem (fun v75 hv75 => ?_)
          refine bindC_eq ?_
          refine bindC_mem (fun v75 hv75 => ?_)
          refine bindC_nil ?_
          exact OpC_app (by decide) encPr_ok el_pr rfl rfl hv75 (hs.drop hk) (by simp) (by simp; omega)
        exact OblC_nil
      case fin10 =>
        intro w101 c103 x102 hc0104
        replace x102 := RelG.ext0 x102
        have z105 := Bel.size x102
        replace hX := Bel.ex hX x102
        refine bindC_mem (fun v66 _ => ?_)
        refine bindC_eq (bindC_eq (bindC_eq ?_))
        refine bindC_mem (fun v70 _ => ?_)
        refine bindC_eq (bindC_eq (bindC_eq ?_))
        refine bindC_mem (fun v74 hv74 => ?_)
        refine bindC_mem (fun v75 _ => ?_)
        refine bindC_eq (bindC_eq (bindC_eq ?_))
        refine bindC_mem (fun v79 hv79 => ?_)
        refine bindC_nil ?_
        change Own _ _ _ _ _ _ _ at hv79
        replace hv79 := Own.mono hv79 (D' := fun g => n1 ≤ g) (fun g h1 h2 => Nat.le_of_not_lt fun q => by have h := hc0104 g (by omega); rw [h2] at h; simp at h)
        refine Rg_run rfl (o_assignh (v := v79) rfl) ?_
        refine Rg_run rfl o_assignc ?_
        refine Rg_nil (W_ret ?_)
        refine ⟨_, res_tmp2 rfl rfl rfl, ?_⟩
        rw [List.append_assoc] at hv79
        exact ⟨⟨v79, _, 0, rfl, (hv79.mono (fun g h1 h2 => Or.inr ⟨by omega, h1⟩)).rd encPr_ok, .inr ⟨hin, k, hk, rfl⟩⟩, hX⟩
    refine Rg_run rfl (o_llen Tryz.underlying66 rfl) ?_
    refine Rg_run rfl (o_lss rfl rfl) ?_
    refine Rg_run rfl (o_moveh (v := .bool _) rfl) ?_
    refine Rg_on 4 37 rfl (congrArg Value.bool (decide_eq_true (by omega))) ?_
    refine Rg_run rfl (o_moveh (v := .slice _ _ _) rfl) ?_
    refine Rg_on 4 37 rfl (congrArg Value.bool (decide_eq_true (by omega))) ?_
    refine Rg_run rfl (o_moveh (v := .int _ _) rfl) ?_
    refine Rg_on 4 37 rfl (congrArg Value.bool (decide_eq_true (by omega))) ?_
    refine Rg_run rfl (o_iaR Tryz.underlying66 Tryz.sizeOf127 hs rfl rfl (by first | omega | (unfold I64; omega) | (simp; done) | (simp; omega) | (simp at *; omega))) ?_
    refine Rg_on 4 37 rfl (congrArg Value.bool (decide_eq_true (by omega))) ?_
    refine Rg_run rfl (o_iaE (j := 0) Tryz.underlying127 Tryz.sizeOf3 hs rfl (getE pz0 (by omega)) rfl (by decide)) ?_
    refine Rg_on 4 37 rfl (congrArg Value.bool (decide_eq_true (by omega))) ?_
    refine Rg_run rfl (o_ldE (j := 0) Tryz.isAgg3 hs rfl (getE pz0 (by omega)) rfl) ?_
    refine Rg_on 4 37 rfl (congrArg Value.bool (decide_eq_true (by omega))) ?_
    refine Rg_run rfl (o_moveh (v := .int _ _) rfl) ?_
    refine Rg_on 4 37 rfl (congrArg Value.bool (decide_eq_true (by omega))) ?_
    refine Rg_run rfl (o_lss rfl rfl) ?_
    refine Rg_on 4 37 rfl (congrArg Value.bool (decide_eq_true (by omega))) ?_
    refine Rg_run rfl (o_moveh (v := .bool _) rfl) ?_
    refine Rg_on 12 45 rfl (congrArg Value.bool (decide_eq_false hf2)) ?_
    refine Rg_run rfl (o_moveh (v := .slice _ _ _) rfl) ?_
    refine Rg_on 12 45 rfl (congrArg Value.bool (decide_eq_false hf2)) ?_
    refine Rg_run rfl (o_moveh (v := .int _ _) rfl) ?_
    refine Rg_on 12 45 rfl (congrArg Value.bool (decide_eq_false hf2)) ?_
    refine Rg_run rfl (o_iaR Tryz.underlying66 Tryz.sizeOf127 hs rfl rfl (by first | omega | (unfold I64; omega) | (simp; done) | (simp; omega) | (simp at *; omega))) ?_
    refine Rg_on 12 45 rfl (congrArg Value.bool (decide_eq_false hf2)) ?_
    refine Rg_run rfl (o_iaE (j := 0) Tryz.underlying127 Tryz.sizeOf3 hs rfl (getE pz0 (by omega)) rfl (by decide)) ?_
    refine Rg_on 12 45 rfl (congrArg Value.bool (decide_eq_false hf2)) ?_
    refine Rg_run rfl (o_ldE (j := 0) Tryz.isAgg3 hs rfl (getE pz0 (by omega)) rfl) ?_
    refine Rg_on 12 45 rfl (congrArg Value.bool (decide_eq_false hf2)) ?_
    refine Rg_run rfl (o_moveh (v := .int _ _) rfl) ?_
    refine Rg_on 12 45 rfl (congrArg Value.bool (decide_eq_false hf2)) ?_
    refine Rg_run rfl (o_eql rfl rfl) ?_
    refine Rg_on 12 45 rfl (congrArg Value.bool (decide_eq_false hf2)) ?_
    refine Rg_run rfl (o_moveh (v := .bool _) rfl) ?_
    refine Rg_off 20 53 rfl rfl (congrArg Value.bool (beq_eq_false_iff_ne.2 hf3)) rfl rfl ?_
    refine Rg_off 20 53 rfl rfl (congrArg Value.bool (beq_eq_false_iff_ne.2 hf3)) rfl rfl ?_
    refine Rg_off 20 53 rfl rfl (congrArg Value.bool (beq_eq_false_iff_ne.2 hf3)) rfl rfl ?_
    refine Rg_off 20 53 rfl rfl (congrArg Value.bool (beq_eq_false_iff_ne.2 hf3)) rfl rfl ?_
    refine Rg_off 20 53 rfl rfl (congrArg Value.bool (beq_eq_false_iff_ne.2 hf3)) rfl rfl ?_
    refine Rg_off 20 53 rfl rfl (congrArg Value.bool (beq_eq_false_iff_ne.2 hf3)) rfl rfl ?_
    refine Rg_off 20 53 rfl rfl (congrArg Value.bool (beq_eq_false_iff_ne.2 hf3)) rfl rfl ?_
    refine Rg_on 12 45 rfl (congrArg Value.bool (decide_eq_false hf2)) ?_
    refine Rg_run rfl (o_pickF (v := .bool _) (congrArg Value.bool (beq_eq_false_iff_ne.2 hf3)) rfl) ?_
    refine Rg_on 4 37 rfl (congrArg Value.bool (decide_eq_true (by omega))) ?_
    refine Rg_run rfl (o_pickF (v := .bool _) (congrArg Value.bool (decide_eq_false hf2)) rfl) ?_
    refine Rg_run rfl (o_pickT (v := .bool _) (congrArg Value.bool (decide_eq_true (by omega))) rfl) ?_
    refine Rg_nil ?_
    refine W_cond_false rfl ?_
    refine W_exit (exAt_hit (W_seq ?_))
    obtain ⟨n1, hn1⟩ : ∃ n, n = w14.heap.size := ⟨_, rfl⟩
    apply W_drawC (β := False) (fun _ => 0) [(fun v w c => ∃ a, v = .slice a 0 0 ∧ postOwn encPr 2 127 1 ([] : List Pr) v w c), peqC _, peqC _, peqC _, (postOwn encPr 2 127 1 (L.take k)), peqC _, peqC _, peqC _, (fun v w c => ∃ a, v = .slice a 1 1 ∧ postOwn encPr 2 127 0 [(x, y)] v w c), (postOwn encPr 2 127 1 (L.take k ++ [(x, y)])), peqC _, peqC _, peqC _, (postOwn encPr 2 127 1 (L.take k ++ [(x, y)] ++ L.drop k))] [1, 0, 0, 0, 1, 0, 0, 0, 0, 1, 0, 0, 0, 1] 14 mixed (by kernel_rfl) (by kernel_rfl) rfl ⟨(postBs_stable), peqC_stable _ _, peqC_stable _ _, peqC_stable _ _, (postOwn_stable), peqC_stable _ _, peqC_stable _ _, peqC_stable _ _, (postBs_stable), (postOwn_stable), peqC_stable _ _, peqC_stable _ _, peqC_stable _ _, (postOwn_stable), trivial⟩ ?ob10 ?fin10
    case ob10 =>
      refine OblC_cons (fun w106 c108 x107 hc0109 hk110 => ?_) ?_
      · skip
        replace x107 := RelG.ext0 x107
        have z111 := Bel.size x107
        refine bindC_nil ?_
        exact OpC_bs (vs := []) ([] : List Pr) encPr_ok el_pr rfl rfl trivial rfl rfl rfl rfl
      refine OblC_cons (fun w112 c114 x113 hc0115 hk116 => ?_) ?_
      · skip
        replace x113 := RelG.ext0 x113
        have z117 := Bel.size x113
        refine bindC_nil ?_
        exact OpC_v rfl (o_moveh (v := .slice _ _ _) rfl)
      refine OblC_cons (fun w118 c120 x119 hc0121 hk122 => ?_) ?_
      · skip
        replace x119 := RelG.ext0 x119
        have z123 := Bel.size x119
        refine bindC_nil ?_
        exact OpC_v rfl (o_moveh (v := .int _ _) rfl)
      refine OblC_cons (fun w124 c126 x125 hc0127 hk128 => ?_) ?_
      · skip
        replace x125 := RelG.ext0 x125
        have z129 := Bel.size x125
        have hs := hs.ext x125
        refine bindC_eq (bindC_eq (bindC_nil ?_))
        exact OpC_v rfl (o_slto (j := k) Tryz.underlying66 Tryz.sizeOf127 rfl rfl (by have := hs.le; omega))
      refine OblC_cons (fun w130 c132 x131 hc0133 hk134 => ?_) ?_
      · skip
        replace x131 := RelG.ext0 x131
        have z135 := Bel.size x131
        have hs := hs.ext x131
        refine bindC_mem (fun v66 hv66 => ?_)
        refine bindC_eq (bindC_nil ?_)
        obtain ⟨a66, rfl, ho66⟩ := hv66
        exact OpC_app (l := []) (news := L.take k) (by decide) encPr_ok el_pr rfl rfl ho66 (hs.take k) (by rw [List.length_take]; omega) (by simp; omega)
      refine OblC_cons (fun w136 c138 x137 hc0139 hk140 => ?_) ?_
      · skip
        replace x137 := RelG.ext0 x137
        have z141 := Bel.size x137
        refine bindC_nil ?_
        exact OpC_v rfl (o_moveh (v := .int _ _) rfl)
      refine OblC_cons (fun w142 c144 x143 hc0145 hk146 => ?_) ?_
      · skip
        replace x143 := RelG.ext0 x143
        have z147 := Bel.size x143
        refine bindC_nil ?_
        exact OpC_v rfl (o_moveh (v := .int _ _) rfl)
      refine OblC_cons (fun w148 c150 x149 hc0151 hk152 => ?_) ?_
      · skip
        replace x149 := RelG.ext0 x149
        have z153 := Bel.size x149
        refine bindC_eq (bindC_eq (bindC_nil ?_))
        exact OpC_v rfl (o_build (cells := encPr (x, y)) (vs := [(0, .int _ _), (1, .int _ _)]) rfl (by kernel_rfl))
      refine OblC_cons (fun w154 c156 x155 hc0157 hk158 => ?_) ?_
      · skip
        replace x155 := RelG.ext0 x155
        have z159 := Bel.size x155
        refine bindC_eq (bindC_nil ?_)
        exact OpC_bs (vs := [.agg _]) [(x, y)] encPr_ok el_pr rfl rfl ⟨rfl, trivial⟩ rfl rfl rfl rfl
      refine OblC_cons (fun w160 c162 x161 hc0163 hk164 => ?_) ?_
      · skip
        replace x161 := RelG.ext0 x161
        have z165 := Bel.size x161
        refine bindC_mem (fun v70 hv70 => ?_)
        refine bindC_mem (fun v74 hv74 => ?_)
        refine bindC_mem (fun v70 hv70 => ?_)
        refine bindC_nil ?_
        obtain ⟨a74, rfl, ho74⟩ := hv74
        exact OpC_app (by decide) encPr_ok el_pr rfl rfl hv70 (Own.slA ho74 encPr_ok) rfl (by simp; omega)
      refine OblC_cons (fun w166 c168 x167 hc0169 hk170 => ?_) ?_
      · skip
        replace x167 := RelG.ext0 x167
        have z171 := Bel.size x167
        refine bindC_nil ?_
        exact OpC_v rfl (o_moveh (v := .slice _ _ _) rfl)
      refine OblC_cons (fun w172 c174 x173 hc0175 hk176 => ?_) ?_
      · skip
        replace x173 := RelG.ext0 x173
        have z177 := Bel.size x173
        refine bindC_nil ?_
        exact OpC_v rfl (o_moveh (v := .int _ _) rfl)
      refine OblC_cons (fun w178 c180 x179 hc0181 hk182 => ?_) ?_
      · skip
        replace x179 := RelG.ext0 x179
        have z183 := Bel.size x179
        have hs := hs.ext x179
        refine bindC_eq (bindC_eq (bindC_nil ?_))
        exact OpC_v rfl (o_slfrom2 (j := k) Tryz.underlying66 Tryz.sizeOf127 rfl rfl hk hs.le)
      refine OblC_cons (fun w184 c186 x185 hc0187 hk188 => ?_) ?_
      · skip
        replace x185 := RelG.ext0 x185
        have z189 := Bel.size x185
        have hs := hs.ext x185
        refine bindC_mem (fun v75 hv75 => ?_)
        refine bindC_eq ?_
        refine bindC_mem (fun v75 hv75 => ?_)
        refine bindC_nil ?_
        exact OpC_app (by decide) encPr_ok el_pr rfl rfl hv75 (hs.drop hk) (by simp) (by simp; omega)
      exact OblC_nil
    case fin10 =>
      intro w190 c192 x191 hc0193
      replace x191 := RelG.ext0 x191
      have z194 := Bel.size x191
      replace hX := Bel.ex hX x191
      refine bindC_mem (fun v66 _ => ?_)
      refine bindC_eq (bindC_eq (bindC_eq ?_))
      refine bindC_mem (fun v70 _ => ?_)
      refine bindC_eq (bindC_eq (bindC_eq ?_))
      refine bindC_mem (fun v74 hv74 => ?_)
      refine bindC_mem (fun v75 _ => ?_)
      refine bindC_eq (bindC_eq (bindC_eq ?_))
      refine bindC_mem (fun v79 hv79 => ?_)
      refine bindC_nil ?_
      change Own _ _ _ _ _ _ _ at hv79
      replace hv79 := Own.mono hv79 (D' := fun g => n1 ≤ g) (fun g h1 h2 => Nat.le_of_not_lt fun q => by have h := hc0193 g (by omega); rw [h2] at h; simp at h)
      refine Rg_run rfl (o_assignh (v := v79) rfl) ?_
      refine Rg_run rfl o_assignc ?_
      refine Rg_nil (W_ret ?_)
      refine ⟨_, res_tmp2 rfl rfl rfl, ?_⟩
      rw [List.append_assoc] at hv79
      exact ⟨⟨v79, _, 0, rfl, (hv79.mono (fun g h1 h2 => Or.inr ⟨by omega, h1⟩)).rd encPr_ok, .inr ⟨hin, k, hk, rfl⟩⟩, hX⟩
  refine Rg_run rfl (o_moveh (v := .int _ _) rfl) ?_
  refine Rg_run rfl (o_moveh (v := .slice _ _ _) rfl) ?_
  refine Rg_run rfl (o_llen Tryz.underlying66 rfl) ?_
  refine Rg_run rfl (o_lss rfl rfl) ?_
  refine Rg_run rfl (o_moveh (v := .bool _) rfl) ?_
  refine Rg_off 4 37 rfl rfl (congrArg Value.bool (decide_eq_false (by omega))) rfl rfl ?_
  refine Rg_off 4 37 rfl rfl (congrArg Value.bool (decide_eq_false (by omega))) rfl rfl ?_
  refine Rg_off 4 37 rfl rfl (congrArg Value.bool (decide_eq_false (by omega))) rfl rfl ?_
  refine Rg_off 4 37 rfl rfl (congrArg Value.bool (decide_eq_false (by omega))) rfl rfl ?_
  refine Rg_off 4 37 rfl rfl (congrArg Value.bool (decide_eq_false (by omega))) rfl rfl ?_
  refine Rg_off 4 37 rfl rfl (congrArg Value.bool (decide_eq_false (by omega))) rfl rfl ?_
  refine Rg_off 4 37 rfl rfl (congrArg Value.bool (decide_eq_false (by omega))) rfl rfl ?_
  refine Rg_off 4 37 rfl rfl (congrArg Value.bool (decide_eq_false (by omega))) rfl rfl ?_
  refine Rg_offU 12 45 rfl rfl rfl rfl ?_
  refine Rg_offU 12 45 rfl rfl rfl rfl ?_
  refine Rg_offU 12 45 rfl rfl rfl rfl ?_
  refine Rg_offU 12 45 rfl rfl rfl rfl ?_
  refine Rg_offU 12 45 rfl rfl rfl rfl ?_
  refine Rg_offU 12 45 rfl rfl rfl rfl ?_
  refine Rg_offU 12 45 rfl rfl rfl rfl ?_
  refine Rg_offU 12 45 rfl rfl rfl rfl ?_
  refine Rg_offU 20 53 rfl rfl rfl rfl ?_
  refine Rg_offU 20 53 rfl rfl rfl rfl ?_
  refine Rg_offU 20 53 rfl rfl rfl rfl ?_
  refine Rg_offU 20 53 rfl rfl rfl rfl ?_
  refine Rg_offU 20 53 rfl rfl rfl rfl ?_
  refine Rg_offU 20 53 rfl rfl rfl rfl ?_
  refine Rg_offU 20 53 rfl rfl rfl rfl ?_
  refine Rg_offU 12 45 rfl rfl rfl rfl ?_
  refine Rg_off 4 37 rfl rfl (congrArg Value.bool (decide_eq_false (by omega))) rfl rfl ?_
  refine Rg_run rfl (o_pickF (v := .bool _) (congrArg Value.bool (decide_eq_false (by omega))) rfl) ?_
  refine Rg_nil ?_
  refine W_cond_false rfl ?_
  refine W_exit (exAt_hit (W_seq ?_))
  obtain ⟨n1, hn1⟩ : ∃ n, n = w14.heap.size := ⟨_, rfl⟩
  apply W_drawC (β := False) (fun _ => 0) [(fun v w c => ∃ a, v = .slice a 0 0 ∧ postOwn encPr 2 127 1 ([] : List Pr) v w c), peqC _, peqC _, peqC _, (postOwn encPr 2 127 1 (L.take k)), peqC _, peqC _, peqC _, (fun v w c => ∃ a, v = .slice a 1 1 ∧ postOwn encPr 2 127 0 [(x, y)] v w c), (postOwn encPr 2 127 1 (L.take k ++ [(x, y)])), peqC _, peqC _, peqC _, (postOwn encPr 2 127 1 (L.take k ++ [(x, y)] ++ L.drop k))] [1, 0, 0, 0, 1, 0, 0, 0, 0, 1, 0, 0, 0, 1] 14 mixed (by kernel_rfl) (by kernel_rfl) rfl ⟨(postBs_stable), peqC_stable _ _, peqC_stable _ _, peqC_stable _ _, (postOwn_stable), peqC_stable _ _, peqC_stable _ _, peqC_stable _ _, (postBs_stable), (postOwn_stable), peqC_stable _ _, peqC_stable _ _, peqC_stable _ _, (postOwn_stable), trivial⟩ ?ob10 ?fin10
  case ob10 =>
    refine OblC_cons (fun w195 c197 x196 hc0198 hk199 => ?_) ?_
    · skip
      replace x196 := RelG.ext0 x196
      have z200 := Bel.size x196
      refine bindC_nil ?_
      exact OpC_bs (vs := []) ([] : List Pr) encPr_ok el_pr rfl rfl trivial rfl rfl rfl rfl
    refine OblC_cons (fun w201 c203 x202 hc0204 hk205 => ?_) ?_
    · skip
      replace x202 := RelG.ext0 x202
      have z206 := Bel.size x202
      refine bindC_nil ?_
      exact OpC_v rfl (o_moveh (v := .slice _ _ _) rfl)
    refine OblC_cons (fun w207 c209 x208 hc0210 hk211 => ?_) ?_
    · skip
      replace x208 := RelG.ext0 x208
      have z212 := Bel.size x208
      refine bindC_nil ?_
      exact OpC_v rfl (o_moveh (v := .int _ _) rfl)
    refine OblC_cons (fun w213 c215 x214 hc0216 hk217 => ?_) ?_
    · skip
      replace x214 := RelG.ext0 x214
      have z218 := Bel.size x214
      have hs := hs.ext x214
      refine bindC_eq (bindC_eq (bindC_nil ?_))
      exact OpC_v rfl (o_slto (j := k) Tryz.underlying66 Tryz.sizeOf127 rfl rfl (by have := hs.le; omega))
    refine OblC_cons (fun w219 c221 x220 hc0222 hk223 => ?_) ?_
    · skip
      replace x220 := RelG.ext0 x220
      have z224 := Bel.size x220
      have hs := hs.ext x220
      refine bindC_mem (fun v66 hv66 => ?_)
      refine bindC_eq (bindC_nil ?_)
      obtain ⟨a66, rfl, ho66⟩ := hv66
      exact OpC_app (l := []) (news := L.take k) (by decide) encPr_ok el_pr rfl rfl ho66 (hs.take k) (by rw [List.length_take]; omega) (by simp; omega)
    refine OblC_cons (fun w225 c227 x226 hc0228 hk229 => ?_) ?_
    · skip
      replace x226 := RelG.ext0 x226
      have z230 := Bel.size x226
      refine bindC_nil ?_
      exact OpC_v rfl (o_moveh (v := .int _ _) rfl)
    refine OblC_cons (fun w231 c233 x232 hc0234 hk235 => ?_) ?_
    · skip
      replace x232 := RelG.ext0 x232
      have z236 := Bel.size x232
      refine bindC_nil ?_
      exact OpC_v rfl (o_moveh (v := .int _ _) rfl)
    refine OblC_cons (fun w237 c239 x238 hc0240 hk241 => ?_) ?_
    · skip
      replace x238 := RelG.ext0 x238
      have z242 := Bel.size x238
      refine bindC_eq (bindC_eq (bindC_nil ?_))
      exact OpC_v rfl (o_build (cells := encPr (x, y)) (vs := [(0, .int _ _), (1, .int _ _)]) rfl (by kernel_rfl))
    refine OblC_cons (fun w243 c245 x244 hc0246 hk247 => ?_) ?_
    · skip
      replace x244 := RelG.ext0 x244
      have z248 := Bel.size x244
      refine bindC_eq (bindC_nil ?_)
      exact OpC_bs (vs := [.agg _]) [(x, y)] encPr_ok el_pr rfl rfl ⟨rfl, trivial⟩ rfl rfl rfl rfl
    refine OblC_cons (fun w249 c251 x250 hc0252 hk253 => ?_) ?_
    · skip
      replace x250 := RelG.ext0 x250
      have z254 := Bel.size x250
      refine bindC_mem (fun v70 hv70 => ?_)
      refine bindC_mem (fun v74 hv74 => ?_)
      refine bindC_mem (fun v70 hv70 => ?_)
      refine bindC_nil ?_
      obtain ⟨a74, rfl, ho74⟩ := hv74
      exact OpC_app (by decide) encPr_ok el_pr rfl rfl hv70 (Own.slA ho74 encPr_ok) rfl (by simp; omega)
    refine OblC_cons (fun w255 c257 x256 hc0258 hk259 => ?_) ?_
    · skip
      replace x256 := RelG.ext0 x256
      have z260 := Bel.size x256
      refine bindC_nil ?_
      exact OpC_v rfl (o_moveh (v := .slice _ _ _) rfl)
    refine OblC_cons (fun w261 c263 x262 hc0264 hk265 => ?_) ?_
    · skip
      replace x262 := RelG.ext0 x262
      have z266 := Bel.size x262
      refine bindC_nil ?_
      exact OpC_v rfl (o_moveh (v := .int _ _) rfl)
    refine OblC_cons (fun w267 c269 x268 hc0270 hk271 => ?_) ?_
    · skip
      replace x268 := RelG.ext0 x268
      have z272 := Bel.size x268
      have hs := hs.ext x268
      refine bindC_eq (bindC_eq (bindC_nil ?_))
      exact OpC_v rfl (o_slfrom2 (j := k) Tryz.underlying66 Tryz.sizeOf127 rfl rfl hk hs.le)
    refine OblC_cons (fun w273 c275 x274 hc0276 hk277 => ?_) ?_
    · skip
      replace x274 := RelG.ext0 x274
      have z278 := Bel.size x274
      have hs := hs.ext x274
      refine bindC_mem (fun v75 hv75 => ?_)
      refine bindC_eq ?_
      refine bindC_mem (fun v75 hv75 => ?_)
      refine bindC_nil ?_
      exact OpC_app (by decide) encPr_ok el_pr rfl rfl hv75 (hs.drop hk) (by simp) (by simp; omega)
    exact OblC_nil
  case fin10 =>
    intro w279 c281 x280 hc0282
    replace x280 := RelG.ext0 x280
    have z283 := Bel.size x280
    replace hX := Bel.ex hX x280
    refine bindC_mem (fun v66 _ => ?_)
    refine bindC_eq (bindC_eq (bindC_eq ?_))
    refine bindC_mem (fun v70 _ => ?_)
    refine bindC_eq (bindC_eq (bindC_eq ?_))
    refine bindC_mem (fun v74 hv74 => ?_)
    refine bindC_mem (fun v75 _ => ?_)
    refine bindC_eq (bindC_eq (bindC_eq ?_))
    refine bindC_mem (fun v79 hv79 => ?_)
    refine bindC_nil ?_
    change Own _ _ _ _ _ _ _ at hv79
    replace hv79 := Own.mono hv79 (D' := fun g => n1 ≤ g) (fun g h1 h2 => Nat.le_of_not_lt fun q => by have h := hc0282 g (by omega); rw [h2] at h; simp at h)
    refine Rg_run rfl (o_assignh (v := v79) rfl) ?_
    refine Rg_run rfl o_assignc ?_
    refine Rg_nil (W_ret ?_)
    refine ⟨_, res_tmp2 rfl rfl rfl, ?_⟩
    rw [List.append_assoc] at hv79
    exact ⟨⟨v79, _, 0, rfl, (hv79.mono (fun g h1 h2 => Or.inr ⟨by omega, h1⟩)).rd encPr_ok, .inr ⟨hin, k, hk, rfl⟩⟩, hX⟩

theorem r10links_ok (x : W64) (w : World) : Ok Tryz.prog 69 #[u64 x] w fun v w' => (∃ L ρ, Rd encPr 2 (Lt w'.heap.size) w' v L ∧ LkOk L ρ ∧ L.length ≤ 36) ∧ Ext False w w' := by
  obtain ⟨aa, haa⟩ : ∃ n, n = ((x >>> 16) % 2#64).toNat := ⟨_, rfl⟩
  obtain ⟨bb, hbb⟩ : ∃ n, n = ((x >>> 17) % 6#64).toNat := ⟨_, rfl⟩
  have ha2 : aa < 2 := by rw [haa]; exact rem2_lt _
  have hb6 : bb < 6 := by rw [hbb]; exact rem6_lt _
  have hl0 : ∀ k, (ordL aa bb k).length = k := fun k => by simp [ordL]
  refine Ok_of_W 62 Tryz.func69 rfl rfl rfl ?_
  have hX : Ext False w w := Bel.refl _ _
  refine W_seq (W_region ?_)
  refine Rg_run rfl o_assignc ?_
  refine Rg_nil (W_seq (W_region ?_))
  refine Rg_run rfl o_assignc ?_
  refine Rg_nil (W_seq (W_seq (W_region ?_)))
  refine Rg_run rfl o_assignc ?_
  refine Rg_nil (W_block ?_)
  refine W_for (α := Nat × Value) [(3, 4), (9, 30)] (fun q => [(4, .int .i64 (q.1 : Int)), (3, q.2)]) (fun q w' => (q.1 ≤ 6) ∧ Bel False (fun g => w.heap.size ≤ g) w w' ∧ (Own encJ 1 3 (fun g => w.heap.size ≤ g) w' q.2 (ordL aa bb q.1))) (fun q => 6 - q.1) (0, .slice none 0 0) ⟨rfl, rfl, trivial⟩ ⟨Nat.zero_le _, Bel.refl _ _, Own.nil _ _⟩ ?_
  rintro ⟨k, u⟩ fb3 w2 ⟨hk, hXL1, hown⟩
  dsimp only at *
  have z4 := Bel.size hXL1
  replace hX := Bel.out hX hXL1 (fun g h1 h2 => by first | exact h2 | omega)
  refine W_seq (W_seq (W_region ?_))
  refine Rg_run rfl (o_moveh (v := .int _ _) rfl) ?_
  refine Rg_run rfl (o_lss rfl rfl) ?_
  refine Rg_nil ?_
  refine W_cond rfl (fun hc1 => ?_) (fun hc1 => ?_)
  · skip
    replace hc1 := of_decide_eq_true hc1
    refine W_skip (W_seq (W_block (W_region ?_)))
    refine Rg_run rfl (o_moveh (v := u) rfl) ?_
    refine Rg_run rfl (o_moveh (v := .int _ _) rfl) ?_
    refine Rg_run rfl (o_moveh (v := .int _ _) rfl) ?_
    refine Rg_run rfl (o_shrU (n := 16) rfl rfl (by first | omega | (unfold I64; omega) | (simp; done) | (simp; omega) | (simp at *; omega))) ?_
    refine Rg_run rfl (o_uremU (b := BitVec.ofNat 64 2) rfl rfl (by decide)) ?_
    refine Rg_run rfl (o_convU Tryz.underlying50 Tryz.underlying3 rfl haa.symm (by omega)) ?_
    refine Rg_run rfl (o_mul rfl rfl (by first | omega | (unfold I64; omega) | (simp; done) | (simp; omega) | (simp at *; omega))) ?_
    refine Rg_run rfl (o_add rfl rfl (by first | omega | (unfold I64; omega) | (simp; done) | (simp; omega) | (simp at *; omega))) ?_
    refine Rg_run rfl (o_mul rfl rfl (by unfold I64; have := mul_small (k := k) (a := aa) (by omega) ha2; omega)) ?_
    refine Rg_run rfl (o_moveh (v := .int _ _) rfl) ?_
    refine Rg_run rfl (o_shrU (n := 17) rfl rfl (by first | omega | (unfold I64; omega) | (simp; done) | (simp; omega) | (simp at *; omega))) ?_
    refine Rg_run rfl (o_uremU (b := BitVec.ofNat 64 6) rfl rfl (by decide)) ?_
    refine Rg_run rfl (o_convU Tryz.underlying50 Tryz.underlying3 rfl hbb.symm (by omega)) ?_
    refine Rg_run rfl (o_add rfl rfl (by unfold I64; have := mul_small (k := k) (a := aa) (by omega) ha2; omega)) ?_
    refine Rg_run rfl (o_remT (b := 6) rfl rfl (by have := mul_small (k := k) (a := aa) (by omega) ha2; omega) (by decide) (by unfold I64; have := mul_small (k := k) (a := aa) (by omega) ha2; omega)) ?_
    refine Rg_run rfl (o_add rfl rfl (by first | omega | (unfold I64; omega) | (simp; done) | (simp; omega) | (simp at *; omega))) ?_
    refine Rg_bs (vs := [.int _ _]) ([((1 : Int) + ((((k : Int) * (1 + 4 * (aa : Int)) + (bb : Int)).toNat % 6 : Nat)))]) rfl encJ_ok el_int rfl rfl ⟨rfl, trivial⟩ rfl rfl rfl rfl ?_
    intro a29 w5 x6 hown29
    have z7 := Bel.size x6
    replace hX := Bel.ex hX x6
    replace hXL1 := Bel.ex hXL1 x6
    replace hown := hown.ext x6
    replace hown29 := hown29.mono (D' := fun g => w.heap.size ≤ g) (fun g h1 h2 => by omega)
    refine Rg_app rfl encJ_ok el_int rfl rfl hown (hown29.slA encJ_ok) rfl (by have := hl0 k; simp; omega) (fun g h => by omega) ?_
    intro v30 w8 x9 hown
    have z10 := Bel.size x9
    replace hX := Bel.out hX x9 (fun g h1 h2 => by first | exact h2 | omega)
    replace hXL1 := Bel.out hXL1 x9 (fun g h1 h2 => by first | exact h2 | omega)
    refine Rg_run rfl (o_assignh (v := v30) rfl) ?_
    refine Rg_nil (W_region ?_)
    refine Rg_run rfl (o_moveh (v := .int _ _) rfl) ?_
    refine Rg_run rfl (o_add rfl rfl (by first | omega | (unfold I64; omega) | (simp; done) | (simp; omega) | (simp at *; omega))) ?_
    refine Rg_run rfl (o_assignh (v := .int _ _) rfl) ?_
    refine Rg_nil ?_
    refine ⟨(k + 1, v30), ⟨?_, ?_, trivial⟩, ?_, ⟨?_, hXL1, ?_⟩, ?_⟩
    · first | rfl | (go_num) | (exact congrArg _ (by omega))
    · first | rfl | (go_num) | (exact congrArg _ (by omega))
    · repeat (first | exact off_refl _ _ | exact off_mix | refine off_put rfl ?_ | refine off_putN ?_ | refine off_setL rfl ?_ | refine off_mix' rfl ?_)
    · show k + 1 ≤ 6; omega
    · show Own _ _ _ _ _ _ (ordL aa bb (k + 1))
      rw [ordL_succ, ← ord_eq]; exact hown
    · show 6 - (k + 1) < 6 - k; omega
  replace hc1 := of_decide_eq_false hc1
  refine W_exit (exAt_hit (W_seq (W_region ?_)))
  rw [show k = 6 by omega] at hown
  have hl6 := hl0 6
  obtain ⟨a3, c3, hv3, hs3⟩ := hown.sl encJ_ok
  subst hv3
  refine Rg_run rfl o_assignc ?_
  refine Rg_nil (W_seq (W_region ?_))
  refine Rg_run rfl o_assignc ?_
  refine Rg_nil (W_seq (W_seq (W_region ?_)))
  refine Rg_run rfl o_assignc ?_
  refine Rg_nil (W_block ?_)
  refine W_for (α := Nat × Nat × List Pr × Value) [(5, 8), (31, 60)] (fun q => [(7, .int .i64 (q.1 : Int)), (6, .int .i64 (q.2.1 : Int)), (5, q.2.2.2)]) (fun q w' => (q.1 ≤ 6 ∧ q.2.1 ≤ 6 * q.1 ∧ q.2.2.1.length ≤ q.2.1 ∧ LkOk q.2.2.1 (rkF aa bb)) ∧ Ext False w2 w' ∧ (Rd encPr 2 (Lt w'.heap.size) w' q.2.2.2 q.2.2.1)) (fun q => 6 - q.1) (0, 0, [], .slice none 0 0) ⟨rfl, rfl, rfl, trivial⟩ ⟨⟨by decide, by decide, by decide, LkOk.nil _⟩, Bel.refl _ _, Rd.none⟩ ?_
  rintro ⟨i, bt, L, u⟩ fb13 w12 ⟨⟨hi6, hbt, hLl, hLk⟩, hXL11, hrL⟩
  dsimp only at *
  have z14 := Bel.size hXL11
  replace hX := Bel.ex hX hXL11
  replace hs3 := hs3.ext hXL11
  refine W_seq (W_seq (W_region ?_))
  refine Rg_run rfl (o_moveh (v := .int _ _) rfl) ?_
  refine Rg_run rfl (o_lss rfl rfl) ?_
  refine Rg_nil ?_
  refine W_cond rfl (fun hc2 => ?_) (fun hc2 => ?_)
  · skip
    replace hc2 := of_decide_eq_true hc2
    refine W_skip (W_seq (W_block (W_seq (W_region ?_))))
    refine Rg_run rfl (o_moveh (v := .int _ _) rfl) ?_
    refine Rg_run rfl (o_add rfl rfl (by first | omega | (unfold I64; omega) | (simp; done) | (simp; omega) | (simp at *; omega))) ?_
    refine Rg_run rfl (o_assignh (v := .int _ _) rfl) ?_
    refine Rg_nil (W_block ?_)
    refine W_for (α := Nat × Nat × List Pr × Value) [(5, 6), (8, 8), (37, 60)] (fun q => [(8, .int .i64 (q.1 : Int)), (6, .int .i64 (q.2.1 : Int)), (5, q.2.2.2)]) (fun q w' => (i < q.1 ∧ q.1 ≤ 6 ∧ q.2.1 + (i + 1) ≤ 6 * i + q.1 ∧ q.2.2.1.length ≤ q.2.1 ∧ LkOk q.2.2.1 (rkF aa bb)) ∧ Ext False w12 w' ∧ (Rd encPr 2 (Lt w'.heap.size) w' q.2.2.2 q.2.2.1)) (fun q => 6 - q.1) (i + 1, bt, L, u) ⟨rfl, rfl, rfl, trivial⟩ ⟨⟨by show i < i + 1; omega, by show i + 1 ≤ 6; omega, by show bt + (i + 1) ≤ 6 * i + (i + 1); omega, hLl, hLk⟩, Bel.refl _ _, hrL⟩ ?_
    rintro ⟨k, bt2, L2, u2⟩ fb17 w16 ⟨⟨hik, hk6, hbt2, hLl2, hLk2⟩, hXL15, hrL⟩
    dsimp only at *
    have z18 := Bel.size hXL15
    replace hX := Bel.ex hX hXL15
    replace hXL11 := Bel.ex hXL11 hXL15
    replace hs3 := hs3.ext hXL15
    refine W_seq (W_seq (W_region ?_))
    refine Rg_run rfl (o_moveh (v := .int _ _) rfl) ?_
    refine Rg_run rfl (o_lss rfl rfl) ?_
    refine Rg_nil ?_
    refine W_cond rfl (fun hc3 => ?_) (fun hc3 => ?_)
    · skip
      replace hc3 := of_decide_eq_true hc3
      refine W_skip (W_seq (W_block (W_seq (W_seq (W_region ?_)))))
      refine Rg_run rfl (o_moveh (v := .int _ _) rfl) ?_
      refine Rg_run rfl (o_moveh (v := .int _ _) rfl) ?_
      refine Rg_run rfl (o_shrU rfl rfl (by omega)) ?_
      refine Rg_run rfl (o_uremU (b := BitVec.ofNat 64 2) rfl rfl (by decide)) ?_
      refine Rg_run rfl (o_eqU (b := BitVec.ofNat 64 1) rfl rfl) ?_
      refine Rg_nil ?_
      refine W_cond rfl (fun hc4 => ?_) (fun hc4 => ?_)
      · skip
        skip
        obtain ⟨n2, hn2⟩ : ∃ n, n = w16.heap.size := ⟨_, rfl⟩
        have hrL0 : Rd encPr 2 (fun b => b < n2) w16 u2 L2 := by rw [hn2]; exact hrL
        apply W_drawC (β := False) (fun _ => 0) [peqC _, peqC _, peqC _, peqC _, peqC _, peqC _, peqC _, peqC _, peqC _, (postW (LkRes L2 (ordF aa bb i, ordF aa bb k))), (postW (LkRes L2 (ordF aa bb i, ordF aa bb k))), (postW (fun F v w => ∃ M, Rd encPr 2 F w v M ∧ LkP L2 (ordF aa bb i, ordF aa bb k) M)), (postAny), (postW (fun F v w => ∃ M, Rd encPr 2 F w v M ∧ LkP L2 (ordF aa bb i, ordF aa bb k) M))] [0, 0, 0, 0, 0, 0, 0, 0, 0, 0, 0, 0, 0, 0] 14 mixed (by kernel_rfl) (by kernel_rfl) rfl ⟨peqC_stable _ _, peqC_stable _ _, peqC_stable _ _, peqC_stable _ _, peqC_stable _ _, peqC_stable _ _, peqC_stable _ _, peqC_stable _ _, peqC_stable _ _, (postW_stable (LkRes.keepS _ _)), (postW_stable (LkRes.keepS _ _)), (postW_stable (Rd.keepS _ _ _)), (postAny_stable), (postW_stable (Rd.keepS _ _ _)), trivial⟩ ?ob15 ?fin15
        case ob15 =>
          refine OblC_cons (fun w19 c21 x20 hc022 hk23 => ?_) ?_
          · skip
            replace x20 := RelG.ext0 x20
            have z24 := Bel.size x20
            refine bindC_nil ?_
            exact OpC_v rfl (o_moveh (v := u2) rfl)
          refine OblC_cons (fun w25 c27 x26 hc028 hk29 => ?_) ?_
          · skip
            replace x26 := RelG.ext0 x26
            have z30 := Bel.size x26
            refine bindC_nil ?_
            exact OpC_v rfl (o_moveh (v := .slice _ _ _) rfl)
          refine OblC_cons (fun w31 c33 x32 hc034 hk35 => ?_) ?_
          · skip
            replace x32 := RelG.ext0 x32
            have z36 := Bel.size x32
            refine bindC_nil ?_
            exact OpC_v rfl (o_moveh (v := .int _ _) rfl)
          refine OblC_cons (fun w37 c39 x38 hc040 hk41 => ?_) ?_
          · skip
            replace x38 := RelG.ext0 x38
            have z42 := Bel.size x38
            have hs3 := hs3.ext x38
            refine bindC_eq (bindC_eq (bindC_nil ?_))
            exact OpC_v rfl (o_iaR Tryz.underlying109 Tryz.sizeOf3 hs3 rfl rfl (by first | omega | (unfold I64; omega) | (simp; done) | (simp; omega) | (simp at *; omega)))
          refine OblC_cons (fun w43 c45 x44 hc046 hk47 => ?_) ?_
          · skip
            replace x44 := RelG.ext0 x44
            have z48 := Bel.size x44
            have hs3 := hs3.ext x44
            refine bindC_eq (bindC_nil ?_)
            exact OpC_v rfl (o_ldR Tryz.isAgg3 hs3 rfl rfl (ordL_get (by omega)) rfl)
          refine OblC_cons (fun w49 c51 x50 hc052 hk53 => ?_) ?_
          · skip
            replace x50 := RelG.ext0 x50
            have z54 := Bel.size x50
            refine bindC_nil ?_
            exact OpC_v rfl (o_moveh (v := .slice _ _ _) rfl)
          refine OblC_cons (fun w55 c57 x56 hc058 hk59 => ?_) ?_
          · skip
            replace x56 := RelG.ext0 x56
            have z60 := Bel.size x56
            refine bindC_nil ?_
            exact OpC_v rfl (o_moveh (v := .int _ _) rfl)
          refine OblC_cons (fun w61 c63 x62 hc064 hk65 => ?_) ?_
          · skip
            replace x62 := RelG.ext0 x62
            have z66 := Bel.size x62
            have hs3 := hs3.ext x62
            refine bindC_eq (bindC_eq (bindC_nil ?_))
            exact OpC_v rfl (o_iaR Tryz.underlying109 Tryz.sizeOf3 hs3 rfl rfl (by first | omega | (unfold I64; omega) | (simp; done) | (simp; omega) | (simp at *; omega)))
          refine OblC_cons (fun w67 c69 x68 hc070 hk71 => ?_) ?_
          · skip
            replace x68 := RelG.ext0 x68
            have z72 := Bel.size x68
            have hs3 := hs3.ext x68
            refine bindC_eq (bindC_nil ?_)
            exact OpC_v rfl (o_ldR Tryz.isAgg3 hs3 rfl rfl (ordL_get (by omega)) rfl)
          refine OblC_cons (fun w73 c75 x74 hc076 hk77 => ?_) ?_
          · skip
            replace x74 := RelG.ext0 x74
            have z78 := Bel.size x74
            have hrL0 := hrL0.ext x74
            refine bindC_eq (bindC_eq (bindC_eq (bindC_nil ?_)))
            exact OpC_W2 (fun b => b < n2) (fun b hb => ⟨by omega, hc076 b (by omega)⟩) rfl (o_call3 Tryz.call120 rfl rfl rfl) (r10link_ok _ _ L2 (rkF aa bb) _ _ _ hrL0 (by omega) hLk2 (rkF_lt ha2 hb6 hik (by omega)) (ordF_pos _ _ _) (ordF_pos _ _ _))
          refine OblC_cons (fun w79 c81 x80 hc082 hk83 => ?_) ?_
          · skip
            replace x80 := RelG.ext0 x80
            have z84 := Bel.size x80
            refine bindC_mem (fun v56 hv56 => ?_)
            obtain ⟨F56, hF56, u56, M56, e56, rfl, hr56, hp56⟩ := hv56
            refine bindC_nil ?_
            exact OpC_vp rfl (o_moveh rfl) ⟨F56, hF56, u56, M56, e56, rfl, hr56, hp56⟩
          refine OblC_cons (fun w85 c87 x86 hc088 hk89 => ?_) ?_
          · skip
            replace x86 := RelG.ext0 x86
            have z90 := Bel.size x86
            refine bindC_mem (fun v46 hv46 => ?_)
            obtain ⟨F46, hF46, u46, M46, e46, rfl, hr46, hp46⟩ := hv46
            refine bindC_nil ?_
            exact OpC_vp rfl (o_extract rfl rfl) ⟨F46, hF46, M46, hr46, hp46⟩
          refine OblC_cons (fun w91 c93 x92 hc094 hk95 => ?_) ?_
          · skip
            replace x92 := RelG.ext0 x92
            have z96 := Bel.size x92
            refine bindC_mem (fun v46 hv46 => ?_)
            obtain ⟨F46, hF46, u46, M46, e46, rfl, hr46, hp46⟩ := hv46
            refine bindC_nil ?_
            exact OpC_vp rfl (o_extract rfl rfl) trivial
          refine OblC_cons (fun w97 c99 x98 hc0100 hk101 => ?_) ?_
          · skip
            replace x98 := RelG.ext0 x98
            have z102 := Bel.size x98
            refine bindC_mem (fun v57 hv57 => ?_)
            obtain ⟨F57, hF57, M57, hr57, hp57⟩ := hv57
            refine bindC_mem (fun v56 hv56 => ?_)
            obtain ⟨F56, hF56, u56, M56, e56, rfl, hr56, hp56⟩ := hv56
            refine bindC_eq (bindC_eq (bindC_eq (bindC_eq (bindC_eq (bindC_eq (bindC_eq (bindC_eq (bindC_eq ?_))))))))
            refine bindC_mem (fun v56 hv56 => ?_)
            obtain ⟨F56, hF56, u56, M56, e56, rfl, hr56, hp56⟩ := hv56
            refine bindC_mem (fun v46 hv46 => ?_)
            obtain ⟨F46, hF46, u46, M46, e46, rfl, hr46, hp46⟩ := hv46
            refine bindC_mem (fun v57 hv57 => ?_)
            obtain ⟨F57, hF57, M57, hr57, hp57⟩ := hv57
            refine bindC_nil ?_
            exact OpC_vp rfl (o_assignh rfl) ⟨F57, hF57, M57, hr57, hp57⟩
          exact OblC_nil
        case fin15 =>
          intro w103 c105 x104 hc0106
          replace x104 := RelG.ext0 x104
          have z107 := Bel.size x104
          replace hX := Bel.ex hX x104
          replace hXL11 := Bel.ex hXL11 x104
          replace hXL15 := Bel.ex hXL15 x104
          refine bindC_eq (bindC_eq (bindC_eq (bindC_eq (bindC_eq (bindC_eq (bindC_eq (bindC_eq (bindC_eq ?_))))))))
          refine bindC_mem (fun v56 hv56 => ?_)
          obtain ⟨F56, hF56, u56, M56, e56, rfl, hr56, hp56⟩ := hv56
          refine bindC_mem (fun v46 hv46 => ?_)
          obtain ⟨F46, hF46, u46, M46, e46, rfl, hr46, hp46⟩ := hv46
          refine bindC_mem (fun v57 hv57 => ?_)
          obtain ⟨F57, hF57, M57, hr57, hp57⟩ := hv57
          refine bindC_mem (fun v58 hv58 => ?_)
          refine bindC_mem (fun v5 hv5 => ?_)
          refine bindC_nil ?_
          obtain ⟨F5, hF5, M5, hr5, hp5⟩ := hv5
          have hM5 := hp5.ok hLk2 (rkF_lt ha2 hb6 hik (by omega)) ⟨ordF_pos _ _ _, ordF_pos _ _ _⟩
          replace hr5 := hr5.top
          refine Rg_nil (W_region ?_)
          refine Rg_run rfl (o_moveh (v := .int _ _) rfl) ?_
          refine Rg_run rfl (o_add rfl rfl (by first | omega | (unfold I64; omega) | (simp; done) | (simp; omega) | (simp at *; omega))) ?_
          refine Rg_run rfl (o_assignh (v := .int _ _) rfl) ?_
          refine Rg_nil (W_region ?_)
          refine Rg_run rfl (o_moveh (v := .int _ _) rfl) ?_
          refine Rg_run rfl (o_add rfl rfl (by first | omega | (unfold I64; omega) | (simp; done) | (simp; omega) | (simp at *; omega))) ?_
          refine Rg_run rfl (o_assignh (v := .int _ _) rfl) ?_
          refine Rg_nil ?_
          refine ⟨(k + 1, bt2 + 1, M5, v5), ⟨?_, ?_, ?_, trivial⟩, ?_, ⟨?_, hXL15, ?_⟩, ?_⟩
          · first | rfl | (go_num) | (exact congrArg _ (by omega))
          · first | rfl | (go_num) | (exact congrArg _ (by omega))
          · first | rfl | (go_num) | (exact congrArg _ (by omega))
          · repeat (first | exact off_refl _ _ | exact off_mix | refine off_put rfl ?_ | refine off_putN ?_ | refine off_setL rfl ?_ | refine off_mix' rfl ?_)
          · exact ⟨by show i < k + 1; omega, by show k + 1 ≤ 6; omega, by show bt2 + 1 + (i + 1) ≤ 6 * i + (k + 1); omega, by show M5.length ≤ bt2 + 1; omega, hM5.1⟩
          · exact hr5
          · show 6 - (k + 1) < 6 - k; omega
      skip
      refine W_skip (W_region ?_)
      refine Rg_run rfl (o_moveh (v := .int _ _) rfl) ?_
      refine Rg_run rfl (o_add rfl rfl (by first | omega | (unfold I64; omega) | (simp; done) | (simp; omega) | (simp at *; omega))) ?_
      refine Rg_run rfl (o_assignh (v := .int _ _) rfl) ?_
      refine Rg_nil (W_region ?_)
      refine Rg_run rfl (o_moveh (v := .int _ _) rfl) ?_
      refine Rg_run rfl (o_add rfl rfl (by first | omega | (unfold I64; omega) | (simp; done) | (simp; omega) | (simp at *; omega))) ?_
      refine Rg_run rfl (o_assignh (v := .int _ _) rfl) ?_
      refine Rg_nil ?_
      refine ⟨(k + 1, bt2 + 1, L2, u2), ⟨?_, ?_, ?_, trivial⟩, ?_, ⟨?_, hXL15, ?_⟩, ?_⟩
      · first | rfl | (go_num) | (exact congrArg _ (by omega))
      · first | rfl | (go_num) | (exact congrArg _ (by omega))
      · first | rfl | (go_num) | (exact congrArg _ (by omega))
      · repeat (first | exact off_refl _ _ | exact off_mix | refine off_put rfl ?_ | refine off_putN ?_ | refine off_setL rfl ?_ | refine off_mix' rfl ?_)
      · exact ⟨by show i < k + 1; omega, by show k + 1 ≤ 6; omega, by show bt2 + 1 + (i + 1) ≤ 6 * i + (k + 1); omega, by show L2.length ≤ bt2 + 1; omega, hLk2⟩
      · exact hrL
      · show 6 - (k + 1) < 6 - k; omega
    replace hc3 := of_decide_eq_false hc3
    refine W_exit (exAt_hit (W_region ?_))
    refine Rg_run rfl (o_moveh (v := .int _ _) rfl) ?_
    refine Rg_run rfl (o_add rfl rfl (by first | omega | (unfold I64; omega) | (simp; done) | (simp; omega) | (simp at *; omega))) ?_
    refine Rg_run rfl (o_assignh (v := .int _ _) rfl) ?_
    refine Rg_nil ?_
    refine ⟨(i + 1, bt2, L2, u2), ⟨?_, ?_, ?_, trivial⟩, ?_, ⟨?_, hXL11, ?_⟩, ?_⟩
    · first | rfl | (go_num) | (exact congrArg _ (by omega))
    · first | rfl | (go_num) | (exact congrArg _ (by omega))
    · first | rfl | (go_num) | (exact congrArg _ (by omega))
    · repeat (first | exact off_refl _ _ | exact off_mix | refine off_put rfl ?_ | refine off_putN ?_ | refine off_setL rfl ?_ | refine off_mix' rfl ?_)
    · exact ⟨by show i + 1 ≤ 6; omega, by show bt2 ≤ 6 * (i + 1); omega, hLl2, hLk2⟩
    · exact hrL
    · show 6 - (i + 1) < 6 - i; omega
  replace hc2 := of_decide_eq_false hc2
  refine W_exit (exAt_hit (W_seq (W_region ?_)))
  refine Rg_run rfl (o_moveh (v := u) rfl) ?_
  refine Rg_run rfl (o_assignh (v := u) rfl) ?_
  refine Rg_nil (W_ret ?_)
  refine ⟨_, res_tmp rfl rfl, ?_⟩
  exact ⟨⟨L, rkF aa bb, hrL, hLk, by omega⟩, hX⟩

end Go.Proofs.YtncmjgmlnnenhaaGreatDoor
