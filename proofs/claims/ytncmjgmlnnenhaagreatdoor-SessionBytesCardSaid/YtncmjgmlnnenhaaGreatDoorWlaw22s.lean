/- Walks, printed by program: each theorem says what a function of the translation returns. -/
import Derived.Test.YtncmjgmlnnenhaaGreatDoorWsrd
namespace Go.Proofs.YtncmjgmlnnenhaaGreatDoor
open Go Go.Lx Go.RowKit
set_option maxRecDepth 100000
set_option linter.unusedVariables false
set_option linter.unusedSimpArgs false
set_option linter.unnecessarySimpa false
theorem bytesM_len {m : List RS} (h : m.length ≤ 64) : (bytesM m).length ≤ 3000 := by
  have := bytesK_len (m := m) m.length h
  rwa [bytesK_end (Nat.le_refl _)] at this
theorem bytesM_pos (m : List RS) : 1 ≤ (bytesM m).length := by rw [bytesM, List.length_append, putU_eq, List.length_append]; simp; omega
theorem sb_law {m m2 : List RS} {q : List UInt8} (hm : OkM m) (h2 : OkM m2) (hq : bytesM m2 = q) : ((m2 == m) == (bytesM m == q)) = true := by
  subst hq
  rw [bytesM_beq hm h2, beq_swR m2 m]
  exact beq_self_eq_true _
theorem law_SessionBytes (w : World) (hT : Tb w) (v0 : Value) (l : List SOp) (hs : Rd encOp 4 (Lt w.heap.size) w v0 l) (hol : ∀ o ∈ l, I64 o.r) (x y : UInt8) : Ok Tryz.prog 5 #[v0, .agg #[.int .u8 (x.toNat : Int), .int .u8 (y.toNat : Int)]] w fun v w' => v = .bool true ∧ Ext False w w' := by
  obtain ⟨a, c, rfl, hs⟩ := hs
  have hlen := hs.len
  refine Ok_of_W 94 Tryz.func5 rfl rfl rfl ?_
  have hX : Ext False w w := Bel.refl _ _
  refine W_seq (W_region ?_)
  refine Rg_newB rfl (o_box (v := .agg _) rfl) ?_
  intro b3 w1 x2 hge3 hb3
  have hlt3 := hb3.lt
  have z3 := Bel.size x2
  replace hX := Bel.ex hX x2
  replace hT := hT.ext x2
  replace hs := hs.ext x2
  refine Rg_run rfl o_assignc ?_
  refine Rg_nil (W_seq (W_seq (W_region ?_)))
  change Box _ _ _ [.int .u8 (x.toNat : Int), .int .u8 (y.toNat : Int)] at hb3
  refine Rg_enter rfl (o_call0 Tryz.call7) (Ok.mono (awake_ok _ hT) ?_)
  rintro _ w4 ⟨rfl, x5⟩
  have z6 := Bel.size x5
  replace hX := Bel.ex hX x5
  replace hT := hT.ext x5
  replace hs := hs.ext x5
  replace hb3 := hb3.ext x5
  refine Rg_run rfl (o_not rfl) ?_
  refine Rg_nil ?_
  refine W_cond_false rfl ?_
  refine W_skip (W_seq (W_region ?_))
  refine Rg_run rfl (o_moveh (v := .slice _ _ _) rfl) ?_
  refine Rg_enter rfl (o_call1 Tryz.call8 rfl) (Ok.mono (lplay_ok _ _ _ _ _ hs hol) ?_)
  rintro _ w7 ⟨⟨p16, q16, m16, rfl, hm16, hbk16, hrq16⟩, x8⟩
  have z9 := Bel.size x8
  replace hX := Bel.ex hX x8
  replace hT := hT.ext x8
  replace hs := hs.ext x8
  replace hb3 := hb3.ext x8
  refine Rg_run rfl (o_moveh (v := .tuple _) rfl) ?_
  refine Rg_run rfl (o_extract rfl rfl) ?_
  refine Rg_run rfl (o_extract rfl rfl) ?_
  refine Rg_run rfl (o_assignh (v := p16) rfl) ?_
  refine Rg_run rfl (o_assignh (v := q16) rfl) ?_
  refine Rg_nil (W_seq (W_seq (W_region ?_)))
  obtain ⟨pb, b, hpe, hqpb, hmm⟩ := hbk16
  subst hpe
  subst hmm
  have hbl := bytesM_len hm16.len
  refine Rg_run rfl (o_moveh (v := .pointer (some ⟨pb, 0, none⟩)) rfl) ?_
  refine Rg_run rfl (o_peq Tryz.underlying26 rfl rfl) ?_
  refine Rg_nil ?_
  refine W_cond_false rfl ?_
  refine W_skip (W_seq (W_region ?_))
  refine Rg_run rfl (o_moveh (v := .pointer (some ⟨pb, 0, none⟩)) rfl) ?_
  refine Rg_enter rfl (o_call1 Tryz.call9 rfl) (Ok.mono (sbytes_ok _ _ _ hqpb.is hm16) ?_)
  rintro v22 w10 ⟨hown22, x11⟩
  have z12 := Bel.size x11
  replace hX := Bel.ex hX x11
  replace hT := hT.ext x11
  replace hs := hs.ext x11
  replace hb3 := hb3.ext x11
  replace hrq16 := (hrq16.ext x11).top
  replace hqpb := hqpb.ext x11
  refine Rg_run rfl (o_assignh (v := v22) rfl) ?_
  refine Rg_nil (W_seq (W_region ?_))
  obtain ⟨a22, c22, hv22, -⟩ := hown22.sl encB_ok
  subst hv22
  refine Rg_run rfl (o_moveh (v := .slice a22 (bytesM b.m).length c22) rfl) ?_
  refine Rg_enter rfl (o_call1 Tryz.call19 rfl) (Ok.mono (srd_ok _ _ (bytesM b.m) _ (hown22.trd encB_ok) (by omega)) ?_)
  rintro _ w13 ⟨⟨p25, e25, rfl, hres25⟩, x14⟩
  have z15 := Bel.size x14
  replace hX := Bel.ex hX x14
  replace hT := hT.ext x14
  replace hs := hs.ext x14
  replace hb3 := hb3.ext x14
  replace hrq16 := (hrq16.ext x14).top
  replace hqpb := hqpb.ext x14
  replace hown22 := hown22.ext x14
  rw [readS_put hm16] at hres25
  obtain ⟨he25, hk25⟩ := hres25
  subst he25
  refine Rg_run rfl (o_moveh (v := .tuple _) rfl) ?_
  refine Rg_run rfl (o_extract rfl rfl) ?_
  refine Rg_run rfl (o_extract rfl rfl) ?_
  refine Rg_run rfl (o_assignh (v := p25) rfl) ?_
  refine Rg_run rfl (o_assignh (v := .int _ _) rfl) ?_
  refine Rg_nil (W_seq (W_seq (W_region ?_)))
  refine Rg_run rfl (o_moveh (v := .slice a22 (bytesM b.m).length c22) rfl) ?_
  refine Rg_run rfl (o_moveh (v := q16) rfl) ?_
  refine Rg_enter rfl (o_call1 Tryz.call20 rfl) (Ok.mono (r22bytes_ok _ _ b.m _ hrq16 hm16) ?_)
  rintro v30 w16 ⟨hown30, x17⟩
  have z18 := Bel.size x17
  replace hX := Bel.ex hX x17
  replace hT := hT.ext x17
  replace hs := hs.ext x17
  replace hb3 := hb3.ext x17
  replace hrq16 := (hrq16.ext x17).top
  replace hqpb := hqpb.ext x17
  replace hown22 := hown22.ext x17
  replace hk25 := hk25.ext x17
  replace hown30 := hown30.mono (D' := fun g => w.heap.size ≤ g) (fun g h1 h2 => by omega)
  refine Rg_enter rfl (o_call2 Tryz.call17 rfl rfl) (Ok.mono (r2same_ok _ _ _ _ _ _ _ (hown22.trd encB_ok) (hown30.trd encB_ok)) ?_)
  rintro _ w19 ⟨rfl, x20⟩
  have z21 := Bel.size x20
  replace hX := Bel.ex hX x20
  replace hT := hT.ext x20
  replace hs := hs.ext x20
  replace hb3 := hb3.ext x20
  replace hrq16 := (hrq16.ext x20).top
  replace hqpb := hqpb.ext x20
  replace hown22 := hown22.ext x20
  replace hk25 := hk25.ext x20
  replace hown30 := hown30.ext x20
  refine Rg_run rfl (o_not rfl) ?_
  refine Rg_run rfl (o_moveh (v := .bool _) rfl) ?_
  refine Rg_on 5 33 rfl (congrArg Value.bool (show (!((bytesM b.m) == (bytesM b.m))) = false by simp)) ?_
  refine Rg_run rfl (o_moveh (v := .int _ _) rfl) ?_
  refine Rg_on 5 33 rfl (congrArg Value.bool (show (!((bytesM b.m) == (bytesM b.m))) = false by simp)) ?_
  refine Rg_run rfl (o_neq rfl rfl) ?_
  refine Rg_run rfl (o_pickF (v := .bool _) (congrArg Value.bool (show (!((bytesM b.m) == (bytesM b.m))) = false by simp)) rfl) ?_
  refine Rg_run rfl (o_moveh (v := .bool _) rfl) ?_
  refine Rg_on 9 37 rfl rfl ?_
  refine Rg_run rfl (o_moveh (v := p25) rfl) ?_
  refine Rg_on 9 37 rfl rfl ?_
  refine Rg_run rfl (o_moveh (v := .pointer (some ⟨pb, 0, none⟩)) rfl) ?_
  refine Rg_on 9 37 rfl rfl ?_
  refine Rg_enter rfl (o_call2 Tryz.call16 rfl rfl) (Ok.mono (seqB_ok _ _ b.m b.m _ hk25 hqpb.is) ?_)
  rintro _ w22 ⟨rfl, x23⟩
  have z24 := Bel.size x23
  replace hX := Bel.ex hX x23
  replace hT := hT.ext x23
  replace hs := hs.ext x23
  replace hb3 := hb3.ext x23
  replace hrq16 := (hrq16.ext x23).top
  replace hqpb := hqpb.ext x23
  replace hown22 := hown22.ext x23
  replace hk25 := hk25.ext x23
  replace hown30 := hown30.ext x23
  refine Rg_on 9 37 rfl rfl ?_
  refine Rg_run rfl (o_not rfl) ?_
  refine Rg_run rfl (o_pickF (v := .bool _) rfl rfl) ?_
  refine Rg_run rfl (o_moveh (v := .bool _) rfl) ?_
  refine Rg_on 15 43 rfl (congrArg Value.bool (show (!(b.m == b.m)) = false by simp)) ?_
  refine Rg_run rfl (o_moveh (v := p25) rfl) ?_
  refine Rg_on 15 43 rfl (congrArg Value.bool (show (!(b.m == b.m)) = false by simp)) ?_
  refine Rg_run rfl (o_moveh (v := q16) rfl) ?_
  refine Rg_on 15 43 rfl (congrArg Value.bool (show (!(b.m == b.m)) = false by simp)) ?_
  refine Rg_enter rfl (o_call2 Tryz.call21 rfl rfl) (Ok.mono (lis_ok _ b.m _ hk25 hm16 _ hrq16) ?_)
  rintro _ w25 ⟨rfl, x26⟩
  have z27 := Bel.size x26
  replace hX := Bel.ex hX x26
  replace hT := hT.ext x26
  replace hs := hs.ext x26
  replace hb3 := hb3.ext x26
  replace hrq16 := (hrq16.ext x26).top
  replace hqpb := hqpb.ext x26
  replace hown22 := hown22.ext x26
  replace hk25 := hk25.ext x26
  replace hown30 := hown30.ext x26
  refine Rg_on 15 43 rfl (congrArg Value.bool (show (!(b.m == b.m)) = false by simp)) ?_
  refine Rg_run rfl (o_not rfl) ?_
  refine Rg_run rfl (o_pickF (v := .bool _) (congrArg Value.bool (show (!(b.m == b.m)) = false by simp)) rfl) ?_
  refine Rg_nil ?_
  refine W_cond_false rfl ?_
  refine W_skip (W_seq (W_region ?_))
  obtain ⟨n49, hn49⟩ : ∃ n, n = w25.heap.size := ⟨_, rfl⟩
  replace hqpb := hqpb.mono (F' := fun g => g < n49) (fun g h1 h2 => by omega)
  replace hown22 := hown22.mono (D' := fun g => g < n49) (fun g h1 h2 => by omega)
  have hgp := bytesM_pos b.m
  have hix := Nat.mod_lt x.toNat (show 0 < (bytesM b.m).length by omega)
  have hx8 := x.toNat_lt
  refine Rg_bs (vs := []) (([] : List UInt8)) rfl encB_ok el_b8 rfl rfl trivial rfl rfl rfl rfl ?_
  intro a49 w28 x29 hown49
  have z30 := Bel.size x29
  replace hX := Bel.ex hX x29
  replace hT := hT.ext x29
  replace hb3 := hb3.ext x29
  replace hqpb := hqpb.ext x29
  replace hown22 := hown22.ext x29
  replace hown30 := hown30.ext x29
  replace hown49 := hown49.mono (D' := fun g => n49 ≤ g) (fun g h1 h2 => by omega)
  refine Rg_run rfl (o_moveh (v := .slice a22 (bytesM b.m).length c22) rfl) ?_
  refine Rg_app rfl encB_ok el_b8 rfl rfl hown49 (hown22.slA encB_ok) rfl (by simp; omega) (fun g h => by omega) ?_
  intro v51 w31 x32 hown49
  have z33 := Bel.size x32
  replace hX := Bel.out hX x32 (fun g h1 h2 => by first | exact h2 | omega)
  replace hT := hT.keep x32 (fun h => by omega)
  replace hb3 := hb3.keep x32 (fun h => by omega)
  replace hqpb := hqpb.keep x32 (fun g h1 h2 h3 => by omega)
  replace hown22 := hown22.keepD x32 (fun g h1 h2 h3 => by omega)
  refine Rg_run rfl (o_assignh (v := v51) rfl) ?_
  refine Rg_nil (W_seq ?_)
  rw [List.nil_append] at hown49
  obtain ⟨a51, c51, hv51, -⟩ := hown49.sl encB_ok
  subst hv51
  apply W_draw (β := False) [peq _, peq _, peq _, peq _, peq _, peq _, peq _, peq _, peq _, peq _] 10 mixed (by kernel_rfl) rfl ⟨peq_stable _, peq_stable _, peq_stable _, peq_stable _, peq_stable _, peq_stable _, peq_stable _, peq_stable _, peq_stable _, peq_stable _, trivial⟩ ?ob11 ?fin11
  case ob11 =>
    refine OblL_cons (fun w34 x35 => ?_) ?_
    · skip
      have z36 := Bel.size x35
      refine bindP_nil ?_
      exact OpS_v rfl (o_moveh (v := .slice a51 (bytesM b.m).length c51) rfl)
    refine OblL_cons (fun w37 x38 => ?_) ?_
    · skip
      have z39 := Bel.size x38
      refine bindP_nil ?_
      exact OpS_v rfl (o_iaA (i := 0) Tryz.underlying54 Tryz.sizeOf5 rfl rfl (by decide))
    refine OblL_cons (fun w40 x41 => ?_) ?_
    · skip
      have z42 := Bel.size x41
      have hb3 := hb3.ext x41
      refine bindP_eq (bindP_nil ?_)
      exact OpS_v rfl (o_load1 Tryz.isAgg5 rfl (hb3.at.get 0 rfl))
    refine OblL_cons (fun w43 x44 => ?_) ?_
    · skip
      have z45 := Bel.size x44
      refine bindP_eq (bindP_nil ?_)
      exact OpS_v rfl (o_convS Tryz.underlying5 Tryz.underlying3 rfl (wrapB _))
    refine OblL_cons (fun w46 x47 => ?_) ?_
    · skip
      have z48 := Bel.size x47
      refine bindP_nil ?_
      exact OpS_v rfl (o_moveh (v := .slice a51 (bytesM b.m).length c51) rfl)
    refine OblL_cons (fun w49 x50 => ?_) ?_
    · skip
      have z51 := Bel.size x50
      have hown49 := hown49.ext x50
      refine bindP_eq (bindP_nil ?_)
      exact OpS_v rfl (o_llenO Tryz.underlying30 rfl hown49)
    refine OblL_cons (fun w52 x53 => ?_) ?_
    · skip
      have z54 := Bel.size x53
      refine bindP_eq (bindP_eq (bindP_nil ?_))
      exact OpS_v rfl (o_remN (a := x.toNat) (b := (bytesM b.m).length) rfl rfl (by omega) (by omega))
    refine OblL_cons (fun w55 x56 => ?_) ?_
    · skip
      have z57 := Bel.size x56
      refine bindP_nil ?_
      exact OpS_v rfl (o_iaA (i := 1) Tryz.underlying54 Tryz.sizeOf5 rfl rfl (by decide))
    refine OblL_cons (fun w58 x59 => ?_) ?_
    · skip
      have z60 := Bel.size x59
      have hb3 := hb3.ext x59
      refine bindP_eq (bindP_nil ?_)
      exact OpS_v rfl (o_load1 Tryz.isAgg5 rfl (hb3.at.get 1 rfl))
    refine OblL_cons (fun w61 x62 => ?_) ?_
    · skip
      have z63 := Bel.size x62
      have hown49 := hown49.ext x62
      refine bindP_eq (bindP_eq (bindP_eq (bindP_eq (bindP_eq (bindP_eq (bindP_eq (bindP_eq (bindP_eq ?_))))))))
      refine bindP_eq (bindP_eq (bindP_nil ?_))
      exact OpS_v rfl (o_iaO (i := (x.toNat % (bytesM b.m).length)) Tryz.underlying30 Tryz.sizeOf5 hown49 rfl rfl (by omega))
    exact OblL_nil
  case fin11 =>
    intro w64 x65
    have z66 := Bel.size x65
    replace hX := Bel.ex hX x65
    replace hT := hT.ext x65
    replace hb3 := hb3.ext x65
    replace hqpb := hqpb.ext x65
    replace hown22 := hown22.ext x65
    replace hown49 := hown49.ext x65
    refine bindP_eq (bindP_eq (bindP_eq (bindP_eq (bindP_eq (bindP_eq (bindP_eq (bindP_eq (bindP_eq ?_))))))))
    refine bindP_eq (bindP_nil ?_)
    refine Rg_elst (u := y) rfl encB_ok Tryz.sizeOf5 rfl rfl rfl hown49 hix ?_
    intro w67 x68 hown49
    have z69 := Bel.size x68
    replace hX := Bel.out hX x68 (fun g h1 h2 => by first | exact h2 | omega)
    replace hT := hT.keep x68 (fun h => by omega)
    replace hb3 := hb3.keep x68 (fun h => by omega)
    replace hqpb := hqpb.keep x68 (fun g h1 h2 h3 => by omega)
    replace hown22 := hown22.keepD x68 (fun g h1 h2 h3 => by omega)
    refine Rg_nil (W_seq (W_region ?_))
    refine Rg_run rfl (o_moveh (v := .slice a51 (bytesM b.m).length c51) rfl) ?_
    refine Rg_enter rfl (o_call1 Tryz.call19 rfl) (Ok.mono (srd_ok _ _ ((bytesM b.m).set (x.toNat % (bytesM b.m).length) y) _ (hown49.trd encB_ok) (by rw [List.length_set]; omega)) ?_)
    rintro _ w70 ⟨⟨p64, e64, rfl, hres64⟩, x71⟩
    have z72 := Bel.size x71
    replace hX := Bel.ex hX x71
    replace hT := hT.ext x71
    replace hb3 := hb3.ext x71
    replace hqpb := hqpb.ext x71
    replace hown22 := hown22.ext x71
    replace hown49 := hown49.ext x71
    refine Rg_run rfl (o_moveh (v := .tuple _) rfl) ?_
    refine (Decidable.em (readS ((bytesM b.m).set (x.toNat % (bytesM b.m).length) y) = none)).elim (fun hrq => ?_) (fun hrq => ?_)
    · skip
      rw [hrq] at hres64
      obtain ⟨he64, hp64⟩ := hres64
      subst he64
      subst hp64
      refine Rg_run rfl (o_extract rfl rfl) ?_
      refine Rg_run rfl (o_extract rfl rfl) ?_
      refine Rg_run rfl (o_assignh (v := .pointer none) rfl) ?_
      refine Rg_run rfl (o_assignh (v := .int _ _) rfl) ?_
      refine Rg_nil (W_seq (W_seq (W_region ?_)))
      refine Rg_run rfl (o_moveh (v := .int _ _) rfl) ?_
      refine Rg_run rfl (o_neq rfl rfl) ?_
      refine Rg_nil ?_
      refine W_cond_true rfl ?_
      refine W_seq (W_region ?_)
      refine Rg_run rfl (o_moveh (v := .int _ _) rfl) ?_
      refine Rg_run rfl (o_eql rfl rfl) ?_
      refine Rg_run rfl (o_moveh (v := .bool _) rfl) ?_
      refine Rg_on 2 71 rfl rfl ?_
      refine Rg_run rfl (o_moveh (v := .pointer none) rfl) ?_
      refine Rg_on 2 71 rfl rfl ?_
      refine Rg_run rfl (o_peq Tryz.underlying26 rfl rfl) ?_
      refine Rg_run rfl (o_pickT (v := .bool _) rfl rfl) ?_
      refine Rg_run rfl (o_moveh (v := .bool _) rfl) ?_
      refine Rg_on 6 75 rfl rfl ?_
      refine Rg_run rfl (o_moveh (v := .slice a22 (bytesM b.m).length c22) rfl) ?_
      refine Rg_on 6 75 rfl rfl ?_
      refine Rg_run rfl (o_moveh (v := .slice a51 (bytesM b.m).length c51) rfl) ?_
      refine Rg_on 6 75 rfl rfl ?_
      refine Rg_enter rfl (o_call2 Tryz.call17 rfl rfl) (Ok.mono (r2same_ok _ _ _ _ _ _ _ (hown22.trd encB_ok) (hown49.trd encB_ok)) ?_)
      rintro _ w73 ⟨rfl, x74⟩
      have z75 := Bel.size x74
      replace hX := Bel.ex hX x74
      replace hT := hT.ext x74
      replace hb3 := hb3.ext x74
      replace hqpb := hqpb.ext x74
      replace hown22 := hown22.ext x74
      replace hown49 := hown49.ext x74
      refine Rg_on 6 75 rfl rfl ?_
      refine Rg_run rfl (o_not rfl) ?_
      refine Rg_run rfl (o_pickT (v := .bool _) rfl rfl) ?_
      refine Rg_run rfl (o_assignh (v := .bool _) rfl) ?_
      refine Rg_nil (W_ret ?_)
      refine ⟨_, res_tmp rfl rfl, ?_⟩
      refine ⟨congrArg Value.bool ?_, hX⟩
      all_goals
        show (!((bytesM b.m) == ((bytesM b.m).set (x.toNat % (bytesM b.m).length) y))) = true
        rw [beq_eq_false_iff_ne.2 (fun h => readS_none hm16 hrq h.symm)]; rfl
    obtain ⟨m2, hm2⟩ : ∃ m2, readS ((bytesM b.m).set (x.toNat % (bytesM b.m).length) y) = some m2 := by
      cases hq : readS ((bytesM b.m).set (x.toNat % (bytesM b.m).length) y) with
      | none => exact absurd hq hrq
      | some m2 => exact ⟨m2, rfl⟩
    rw [hm2] at hres64
    obtain ⟨he64, hk64⟩ := hres64
    subst he64
    have hs2 := readS_some hm2
    refine Rg_run rfl (o_extract rfl rfl) ?_
    refine Rg_run rfl (o_extract rfl rfl) ?_
    refine Rg_run rfl (o_assignh (v := p64) rfl) ?_
    refine Rg_run rfl (o_assignh (v := .int _ _) rfl) ?_
    refine Rg_nil (W_seq (W_seq (W_region ?_)))
    refine Rg_run rfl (o_moveh (v := .int _ _) rfl) ?_
    refine Rg_run rfl (o_neq rfl rfl) ?_
    refine Rg_nil ?_
    refine W_cond_false rfl ?_
    refine W_skip (W_seq (W_region ?_))
    refine Rg_run rfl (o_moveh (v := p64) rfl) ?_
    refine Rg_enter rfl (o_call1 Tryz.call9 rfl) (Ok.mono (sbytes_ok _ m2 _ hk64 hs2.1) ?_)
    rintro v82 w76 ⟨hown82, x77⟩
    have z78 := Bel.size x77
    replace hX := Bel.ex hX x77
    replace hT := hT.ext x77
    replace hb3 := hb3.ext x77
    replace hqpb := hqpb.ext x77
    replace hown22 := hown22.ext x77
    replace hown49 := hown49.ext x77
    replace hk64 := hk64.ext x77
    replace hown82 := hown82.mono (D' := fun g => w.heap.size ≤ g) (fun g h1 h2 => by omega)
    refine Rg_run rfl (o_moveh (v := .slice a51 (bytesM b.m).length c51) rfl) ?_
    refine Rg_enter rfl (o_call2 Tryz.call17 rfl rfl) (Ok.mono (r2same_ok _ _ _ _ _ _ _ (hown82.trd encB_ok) (hown49.trd encB_ok)) ?_)
    rintro _ w79 ⟨rfl, x80⟩
    have z81 := Bel.size x80
    replace hX := Bel.ex hX x80
    replace hT := hT.ext x80
    replace hb3 := hb3.ext x80
    replace hqpb := hqpb.ext x80
    replace hown22 := hown22.ext x80
    replace hown49 := hown49.ext x80
    replace hk64 := hk64.ext x80
    replace hown82 := hown82.ext x80
    refine Rg_run rfl (o_moveh (v := .bool _) rfl) ?_
    refine Rg_on 4 85 rfl (congrArg Value.bool (by rw [hs2.2]; exact beq_self_eq_true _)) ?_
    refine Rg_run rfl (o_moveh (v := p64) rfl) ?_
    refine Rg_on 4 85 rfl (congrArg Value.bool (by rw [hs2.2]; exact beq_self_eq_true _)) ?_
    refine Rg_run rfl (o_moveh (v := .pointer (some ⟨pb, 0, none⟩)) rfl) ?_
    refine Rg_on 4 85 rfl (congrArg Value.bool (by rw [hs2.2]; exact beq_self_eq_true _)) ?_
    refine Rg_enter rfl (o_call2 Tryz.call16 rfl rfl) (Ok.mono (seqB_ok _ _ m2 b.m _ hk64 hqpb.is) ?_)
    rintro _ w82 ⟨rfl, x83⟩
    have z84 := Bel.size x83
    replace hX := Bel.ex hX x83
    replace hT := hT.ext x83
    replace hb3 := hb3.ext x83
    replace hqpb := hqpb.ext x83
    replace hown22 := hown22.ext x83
    replace hown49 := hown49.ext x83
    replace hk64 := hk64.ext x83
    replace hown82 := hown82.ext x83
    refine Rg_on 4 85 rfl (congrArg Value.bool (by rw [hs2.2]; exact beq_self_eq_true _)) ?_
    refine Rg_run rfl (o_moveh (v := .slice a22 (bytesM b.m).length c22) rfl) ?_
    refine Rg_on 4 85 rfl (congrArg Value.bool (by rw [hs2.2]; exact beq_self_eq_true _)) ?_
    refine Rg_run rfl (o_moveh (v := .slice a51 (bytesM b.m).length c51) rfl) ?_
    refine Rg_on 4 85 rfl (congrArg Value.bool (by rw [hs2.2]; exact beq_self_eq_true _)) ?_
    refine Rg_enter rfl (o_call2 Tryz.call17 rfl rfl) (Ok.mono (r2same_ok _ _ _ _ _ _ _ (hown22.trd encB_ok) (hown49.trd encB_ok)) ?_)
    rintro _ w85 ⟨rfl, x86⟩
    have z87 := Bel.size x86
    replace hX := Bel.ex hX x86
    replace hT := hT.ext x86
    replace hb3 := hb3.ext x86
    replace hqpb := hqpb.ext x86
    replace hown22 := hown22.ext x86
    replace hown49 := hown49.ext x86
    replace hk64 := hk64.ext x86
    replace hown82 := hown82.ext x86
    refine Rg_on 4 85 rfl (congrArg Value.bool (by rw [hs2.2]; exact beq_self_eq_true _)) ?_
    refine Rg_run rfl (o_beql Tryz.underlying4 rfl rfl) ?_
    refine Rg_run rfl (o_pickT (v := .bool _) (congrArg Value.bool (by rw [hs2.2]; exact beq_self_eq_true _)) rfl) ?_
    refine Rg_run rfl (o_assignh (v := .bool _) rfl) ?_
    refine Rg_nil (W_ret ?_)
    refine ⟨_, res_tmp rfl rfl, ?_⟩
    refine ⟨congrArg Value.bool ?_, hX⟩
    all_goals (exact sb_law hm16 hs2.1 hs2.2)

end Go.Proofs.YtncmjgmlnnenhaaGreatDoor
