/- Walks, printed by program: each theorem says what a function of the translation returns. -/
import Derived.Test.YtncmjgmlnnenhaaGreatDoorWbrd
namespace Go.Proofs.YtncmjgmlnnenhaaGreatDoor
open Go Go.Lx Go.RowKit
set_option maxRecDepth 100000
set_option linter.unusedVariables false
set_option linter.unusedSimpArgs false
set_option linter.unnecessarySimpa false
abbrev rdV (l : List UInt8) : List W64 := if badB l = true then [] else rdW l
theorem bytesS_le (s : RSt) (most : Nat) : (bytesS s most).2.length ≤ most := by
  unfold bytesS
  split
  · split
    · simp
    split
    · simp
    split
    · simp
    · simp only [List.length_take, List.length_drop]; omega
  · simp
theorem rdV_len (l : List UInt8) : (rdV l).length ≤ (l.length + 7) / 8 := by
  unfold rdV
  split
  · simp
  · rw [rdW_len]; exact Nat.le_refl _
theorem rdV_big {l : List UInt8} (h : ¬ badB l = true) (h8 : 8 < l.length) : rdV l ≠ [] ∧ 63 < gM (rdV l) := by
  have hb : badB l = false := by simpa using h
  rw [rdV, if_neg h]
  have h3 := rdW_len l
  exact ⟨fun e => by rw [e] at h3; simp at h3; omega, gM_big hb h8⟩
theorem rdV_small {l : List UInt8} (h8 : ¬ 8 < l.length) : gM (rdV l) ≤ 63 := by
  unfold rdV
  split
  · rw [gM, if_pos rfl]; decide
  · exact gM_small (by omega)
theorem rdV_ok {l : List UInt8} (h : ¬ badB l = true) (h8 : ¬ 8 < l.length) : rdV l = wl (leW l) := by
  rw [rdV, if_neg h]; exact rdW_small (by simpa using h) (by omega)
theorem setS_no {s : RSt} (h : ¬ (s.2 == 0) = true) : setS s = (s, 0) := by rw [setS, if_neg h]
theorem setS_er {s : RSt} (h : (s.2 == 0) = true) (h2 : ¬ ((bytesS s 512).1.2 == 0) = true) : setS s = ((bytesS s 512).1, 0) := by rw [setS, if_pos h]; simp only; rw [if_neg h2]
theorem setS_bad {s : RSt} (h : (s.2 == 0) = true) (h2 : ((bytesS s 512).1.2 == 0) = true) (h3 : badB (bytesS s 512).2 = true) : setS s = ((s.1, 6), 0) := by rw [setS, if_pos h]; simp only; rw [if_pos h2, if_pos h3]
theorem setS_big {s : RSt} (h : (s.2 == 0) = true) (h2 : ((bytesS s 512).1.2 == 0) = true) (h3 : ¬ badB (bytesS s 512).2 = true) (h4 : 8 < (bytesS s 512).2.length) : setS s = ((s.1, 2), 0) := by rw [setS, if_pos h]; simp only; rw [if_pos h2, if_neg h3, if_pos h4]
theorem setS_ok {s : RSt} (h : (s.2 == 0) = true) (h2 : ((bytesS s 512).1.2 == 0) = true) (h3 : ¬ badB (bytesS s 512).2 = true) (h4 : ¬ 8 < (bytesS s 512).2.length) : setS s = ((bytesS s 512).1, leW (bytesS s 512).2) := by rw [setS, if_pos h]; simp only; rw [if_pos h2, if_neg h3, if_neg h4]
theorem rset_ok (v0 : Value) (D : Nat → Prop) (s : RSt) (w : World) (hr0 : Rr 164 D w v0 s) (hl9 : s.1.length ≤ 100000000) : Ok Tryz.prog 55 #[v0, .int .i64 63] w fun v w' => (∃ a c, v = .agg (encSV ⟨a, c, (setS s).2⟩).toArray ∧ Sl encU 1 (Fsh w w') w' a c (wl (setS s).2)) ∧ Rr 164 D w' v0 (setS s).1 ∧ Bel False (PtB v0) w w' := by
  obtain ⟨b, rfl⟩ := hr0.ptr
  replace hr0 := hr0.mono (D' := fun g => D g ∧ g < w.heap.size) (fun g h1 h2 => ⟨h2, h1⟩)
  have hDb : D b ∧ b < w.heap.size := by
    obtain ⟨b', u, h1, h2, _⟩ := id hr0
    have e := PtB.eq h1; subst e; exact h2
  refine Ok_of_W 55 Tryz.func55 rfl rfl rfl ?_
  have hX : Bel False ((PtB (.pointer (some ⟨b, 0, none⟩)))) w w := Bel.refl _ _
  refine W_seq (W_region ?_)
  refine Rg_newB rfl (o_alloc Tryz.zeroValue36) ?_
  intro b4 w1 x2 hge4 hb4
  have hlt4 := hb4.lt
  change Box _ _ _ ([.slice _ _ _]) at hb4
  have z3 := Bel.size x2
  replace hX := Bel.ex hX x2
  replace hr0 := hr0.ext x2
  refine Rg_nil (W_seq (W_seq (W_region ?_)))
  refine Rg_run rfl (o_moveh (v := .pointer (some ⟨b, 0, none⟩)) rfl) ?_
  refine (Decidable.em ((s.2 == 0) = true)).elim (fun hok => ?_) (fun hok => ?_)
  · skip
    refine Rg_enter rfl (o_call1 Tryz.call96 rfl) (Ok.mono (rok_ok (.pointer (some ⟨b, 0, none⟩)) _ s _ hr0) ?_)
    rintro _ w4 ⟨rfl, x5⟩
    have z6 := Bel.size x5
    replace hX := Bel.ex hX x5
    replace hr0 := hr0.ext x5
    replace hb4 := hb4.ext x5
    refine Rg_run rfl (o_not rfl) ?_
    refine Rg_nil ?_
    refine W_cond_false (congrArg Value.bool (show (!(s.2 == 0)) = false by rw [hok]; rfl)) ?_
    refine W_skip (W_seq (W_region ?_))
    obtain ⟨ax, cx, hb, hx⟩ := hr0.open
    refine Rg_run rfl (o_moveh (v := .pointer (some ⟨b, 0, none⟩)) rfl) ?_
    refine Rg_run rfl (o_nilc rfl) ?_
    refine Rg_run rfl (o_fa Tryz.underlying164 rfl Tryz.sizeOf30 rfl) ?_
    refine Rg_run rfl (o_load1 Tryz.isAgg30 rfl (hb.at.get 0 rfl)) ?_
    refine Rg_run rfl (o_assignh (v := .slice _ _ _) rfl) ?_
    refine Rg_nil (W_seq (W_region ?_))
    refine Rg_run rfl (o_moveh (v := .pointer (some ⟨b, 0, none⟩)) rfl) ?_
    refine Rg_enter rfl (o_call2 Tryz.call102 rfl rfl) (Ok.mono (rbytes_ok (.pointer (some ⟨b, 0, none⟩)) _ s 512 (by omega) _ hr0 hl9) ?_)
    rintro v20 w7 ⟨hown20, hr0, x8⟩
    have z9 := Bel.size x8
    replace hX := Bel.out hX x8 (fun g h1 h2 => by first | exact h2 | (cases h2; rfl) | (exfalso; omega))
    replace hb4 := hb4.keep x8 (fun h => by first | omega | (have := PtB.eq h; omega))
    replace hx := hx.keep x8 (fun g h1 h2 h3 => by first | exact h2.2 h3 | exact h2.2 (PtB.eq h3) | omega)
    refine Rg_enter rfl (o_call1 Tryz.call101 rfl) (Ok.mono (bitsread_ok _ _ (bytesS s 512).2 _ (hown20.trd encB_ok) (bytesS_le s 512)) ?_)
    rintro _ w10 ⟨⟨a21, c21, rfl, hq21⟩, x11⟩
    have z12 := Bel.size x11
    replace hX := Bel.ex hX x11
    replace hr0 := hr0.ext x11
    replace hb4 := hb4.ext x11
    replace hx := hx.ext x11
    refine Rg_run rfl (o_moveh (v := .tuple _) rfl) ?_
    refine Rg_run rfl (o_extract rfl rfl) ?_
    refine Rg_run rfl (o_extract rfl rfl) ?_
    refine Rg_alst rfl rfl Tryz.zeroValue36 rfl Tryz.sizeOf36 (fun _ => rfl) rfl rfl ?_
    intro b6 w13 x14 hge6 hb6
    have hlt6 := hb6.lt
    change Box _ _ _ (wsC _ _ _) at hb6
    have z15 := Bel.size x14
    replace hX := Bel.ex hX x14
    replace hr0 := hr0.ext x14
    replace hb4 := hb4.ext x14
    replace hx := hx.ext x14
    replace hq21 := hq21.ext x14
    refine Rg_run rfl (o_assignh (v := .int _ _) rfl) ?_
    refine Rg_nil (W_seq (W_seq (W_region ?_)))
    refine Rg_run rfl (o_moveh (v := .pointer (some ⟨b, 0, none⟩)) rfl) ?_
    refine (Decidable.em (((bytesS s 512).1.2 == 0) = true)).elim (fun hok2 => ?_) (fun hok2 => ?_)
    · skip
      refine Rg_enter rfl (o_call1 Tryz.call96 rfl) (Ok.mono (rok_ok (.pointer (some ⟨b, 0, none⟩)) _ (bytesS s 512).1 _ hr0) ?_)
      rintro _ w16 ⟨rfl, x17⟩
      have z18 := Bel.size x17
      replace hX := Bel.ex hX x17
      replace hr0 := hr0.ext x17
      replace hb4 := hb4.ext x17
      replace hx := hx.ext x17
      replace hq21 := hq21.ext x17
      replace hb6 := hb6.ext x17
      refine Rg_run rfl (o_not rfl) ?_
      refine Rg_nil ?_
      refine W_cond_false (congrArg Value.bool (show (!((bytesS s 512).1.2 == 0)) = false by rw [hok2]; rfl)) ?_
      refine W_skip (W_seq (W_region ?_))
      refine Rg_run rfl (o_loadS Tryz.isAgg36 Tryz.sizeOf36 rfl hb6.at rfl) ?_
      refine Rg_enter rfl (o_call1 Tryz.call103 rfl) (Ok.mono (bgreatM_ok a21 c21 _ (if badB (bytesS s 512).2 = true then [] else rdW (bytesS s 512).2) _ hq21 (Nat.le_trans (rdV_len (bytesS s 512).2) (by have h2 := bytesS_le s 512; omega))) ?_)
      rintro _ w19 ⟨rfl, x20⟩
      have z21 := Bel.size x20
      replace hX := Bel.ex hX x20
      replace hr0 := hr0.ext x20
      replace hb4 := hb4.ext x20
      replace hx := hx.ext x20
      replace hq21 := hq21.ext x20
      replace hb6 := hb6.ext x20
      refine Rg_run rfl (o_moveh (v := .tuple _) rfl) ?_
      refine Rg_run rfl (o_extract rfl rfl) ?_
      refine Rg_run rfl (o_extract rfl rfl) ?_
      refine Rg_run rfl (o_assignh (v := .int _ _) rfl) ?_
      refine Rg_run rfl (o_assignh (v := .bool _) rfl) ?_
      refine Rg_nil (W_seq (W_block (W_seq (W_region ?_))))
      refine Rg_run rfl (o_moveh (v := .int _ _) rfl) ?_
      refine Rg_run rfl (o_neq rfl rfl) ?_
      refine (Decidable.em (badB (bytesS s 512).2 = true)).elim (fun hbad => ?_) (fun hbad => ?_)
      · skip
        refine Rg_run rfl (o_assignh (v := .bool _) rfl) ?_
        refine Rg_nil ?_
        refine W_cond_true (congrArg Value.bool (by rw [if_pos hbad]; rfl)) ?_
        refine W_region ?_
        obtain ⟨a2, c2, hbq, -⟩ := hr0.open
        refine Rg_run rfl (o_moveh (v := .pointer (some ⟨b, 0, none⟩)) rfl) ?_
        refine Rg_run rfl (o_nilc rfl) ?_
        refine Rg_run rfl (o_fa Tryz.underlying164 rfl Tryz.sizeOf39 rfl) ?_
        refine Rg_store (v := .int _ _) rfl Tryz.sizeOf39 rfl rfl hbq rfl rfl rfl ?_
        intro w22 c23 hbq
        change Box _ _ _ ([_, .int _ _]) at hbq
        have z24 := Bel.size c23
        replace hX := Bel.out hX c23 (fun g h1 h2 => by first | exact h2 | (cases h2; rfl) | (exfalso; omega))
        replace hb4 := hb4.keep c23 (fun h => by first | omega | (have := PtB.eq h; omega))
        replace hx := hx.keep c23 (fun g h1 h2 h3 => by first | exact h2.2 h3 | exact h2.2 (PtB.eq h3) | omega)
        refine Rg_nil (W_seq (W_region ?_))
        refine Rg_run rfl (o_moveh (v := .pointer (some ⟨b, 0, none⟩)) rfl) ?_
        refine Rg_run rfl (o_moveh (v := .slice _ _ _) rfl) ?_
        refine Rg_run rfl (o_nilc rfl) ?_
        refine Rg_run rfl (o_fa Tryz.underlying164 rfl Tryz.sizeOf30 rfl) ?_
        refine Rg_store (v := .slice _ _ _) rfl Tryz.sizeOf30 rfl rfl hbq rfl rfl rfl ?_
        intro w25 c26 hbq
        change Box _ _ _ ([_, .int _ _]) at hbq
        have z27 := Bel.size c26
        replace hX := Bel.out hX c26 (fun g h1 h2 => by first | exact h2 | (cases h2; rfl) | (exfalso; omega))
        replace hb4 := hb4.keep c26 (fun h => by first | omega | (have := PtB.eq h; omega))
        replace hx := hx.keep c26 (fun g h1 h2 h3 => by first | exact h2.2 h3 | exact h2.2 (PtB.eq h3) | omega)
        refine Rg_nil (W_seq (W_region ?_))
        refine Rg_run rfl (o_build (cells := [.slice none 0 0]) (vs := []) rfl (by kernel_rfl)) ?_
        refine Rg_storeW (v := .agg _) rfl Tryz.sizeOf36 rfl rfl hb4 rfl rfl rfl ?_
        intro w28 c29 hb4
        change Box _ _ _ (wsC _ _ _) at hb4
        have z30 := Bel.size c29
        replace hX := Bel.out hX c29 (fun g h1 h2 => by first | exact h2 | (cases h2; rfl) | (exfalso; omega))
        replace hx := hx.keep c29 (fun g h1 h2 h3 => by first | exact h2.2 h3 | exact h2.2 (PtB.eq h3) | omega)
        replace hbq := hbq.keep c29 (fun h => by omega)
        refine Rg_nil (W_ret ?_)
        refine ⟨_, res_1 (v := .agg _) rfl (rv_cellS Tryz.isAgg36 Tryz.sizeOf36 rfl hb4.at rfl), ?_⟩
        rw [setS_bad hok hok2 hbad]; exact ⟨⟨none, 0, rfl, Sl.none⟩, ⟨b, _, rfl, hDb.1, hbq, ax, cx, rfl, hx.mono (fun g h1 h2 => ⟨h2.1.1, h2.2⟩)⟩, hX⟩
      refine Rg_run rfl (o_assignh (v := .bool _) rfl) ?_
      refine Rg_nil ?_
      refine W_cond_false (congrArg Value.bool (by rw [if_neg hbad]; rfl)) ?_
      refine W_seq (W_region ?_)
      refine (Decidable.em (8 < (bytesS s 512).2.length)).elim (fun hbig => ?_) (fun hbig => ?_)
      · skip
        refine Rg_run rfl (o_moveh (v := .bool _) rfl) ?_
        refine Rg_run rfl (o_moveh (v := .bool _) rfl) ?_
        refine Rg_on 1 42 rfl (congrArg Value.bool (decide_eq_true (rdV_big hbad hbig).1)) ?_
        refine Rg_run rfl (o_moveh (v := .int _ _) rfl) ?_
        refine Rg_on 1 42 rfl (congrArg Value.bool (decide_eq_true (rdV_big hbad hbig).1)) ?_
        refine Rg_run rfl (o_moveh (v := .int _ _) rfl) ?_
        refine Rg_on 1 42 rfl (congrArg Value.bool (decide_eq_true (rdV_big hbad hbig).1)) ?_
        refine Rg_run rfl (o_gtr rfl rfl) ?_
        refine Rg_run rfl (o_pickT (v := .bool _) (congrArg Value.bool (decide_eq_true (rdV_big hbad hbig).1)) rfl) ?_
        refine Rg_run rfl (o_assignh (v := .bool _) rfl) ?_
        refine Rg_nil ?_
        refine W_cond_true (congrArg Value.bool (decide_eq_true (rdV_big hbad hbig).2)) ?_
        refine W_region ?_
        obtain ⟨a2, c2, hbq, -⟩ := hr0.open
        refine Rg_run rfl (o_moveh (v := .pointer (some ⟨b, 0, none⟩)) rfl) ?_
        refine Rg_run rfl (o_nilc rfl) ?_
        refine Rg_run rfl (o_fa Tryz.underlying164 rfl Tryz.sizeOf39 rfl) ?_
        refine Rg_store (v := .int _ _) rfl Tryz.sizeOf39 rfl rfl hbq rfl rfl rfl ?_
        intro w31 c32 hbq
        change Box _ _ _ ([_, .int _ _]) at hbq
        have z33 := Bel.size c32
        replace hX := Bel.out hX c32 (fun g h1 h2 => by first | exact h2 | (cases h2; rfl) | (exfalso; omega))
        replace hb4 := hb4.keep c32 (fun h => by first | omega | (have := PtB.eq h; omega))
        replace hx := hx.keep c32 (fun g h1 h2 h3 => by first | exact h2.2 h3 | exact h2.2 (PtB.eq h3) | omega)
        refine Rg_nil (W_seq (W_region ?_))
        refine Rg_run rfl (o_moveh (v := .pointer (some ⟨b, 0, none⟩)) rfl) ?_
        refine Rg_run rfl (o_moveh (v := .slice _ _ _) rfl) ?_
        refine Rg_run rfl (o_nilc rfl) ?_
        refine Rg_run rfl (o_fa Tryz.underlying164 rfl Tryz.sizeOf30 rfl) ?_
        refine Rg_store (v := .slice _ _ _) rfl Tryz.sizeOf30 rfl rfl hbq rfl rfl rfl ?_
        intro w34 c35 hbq
        change Box _ _ _ ([_, .int _ _]) at hbq
        have z36 := Bel.size c35
        replace hX := Bel.out hX c35 (fun g h1 h2 => by first | exact h2 | (cases h2; rfl) | (exfalso; omega))
        replace hb4 := hb4.keep c35 (fun h => by first | omega | (have := PtB.eq h; omega))
        replace hx := hx.keep c35 (fun g h1 h2 h3 => by first | exact h2.2 h3 | exact h2.2 (PtB.eq h3) | omega)
        refine Rg_nil (W_seq (W_region ?_))
        refine Rg_run rfl (o_build (cells := [.slice none 0 0]) (vs := []) rfl (by kernel_rfl)) ?_
        refine Rg_storeW (v := .agg _) rfl Tryz.sizeOf36 rfl rfl hb4 rfl rfl rfl ?_
        intro w37 c38 hb4
        change Box _ _ _ (wsC _ _ _) at hb4
        have z39 := Bel.size c38
        replace hX := Bel.out hX c38 (fun g h1 h2 => by first | exact h2 | (cases h2; rfl) | (exfalso; omega))
        replace hx := hx.keep c38 (fun g h1 h2 h3 => by first | exact h2.2 h3 | exact h2.2 (PtB.eq h3) | omega)
        replace hbq := hbq.keep c38 (fun h => by omega)
        refine Rg_nil (W_ret ?_)
        refine ⟨_, res_1 (v := .agg _) rfl (rv_cellS Tryz.isAgg36 Tryz.sizeOf36 rfl hb4.at rfl), ?_⟩
        rw [setS_big hok hok2 hbad hbig]; exact ⟨⟨none, 0, rfl, Sl.none⟩, ⟨b, _, rfl, hDb.1, hbq, ax, cx, rfl, hx.mono (fun g h1 h2 => ⟨h2.1.1, h2.2⟩)⟩, hX⟩
      refine Rg_run rfl (o_moveh (v := .bool _) rfl) ?_
      refine (Decidable.em ((if badB (bytesS s 512).2 = true then [] else rdW (bytesS s 512).2) ≠ [])).elim (fun hne => ?_) (fun hne => ?_)
      · skip
        refine Rg_run rfl (o_moveh (v := .bool _) rfl) ?_
        refine Rg_on 1 42 rfl (congrArg Value.bool (decide_eq_true hne)) ?_
        refine Rg_run rfl (o_moveh (v := .int _ _) rfl) ?_
        refine Rg_on 1 42 rfl (congrArg Value.bool (decide_eq_true hne)) ?_
        refine Rg_run rfl (o_moveh (v := .int _ _) rfl) ?_
        refine Rg_on 1 42 rfl (congrArg Value.bool (decide_eq_true hne)) ?_
        refine Rg_run rfl (o_gtr rfl rfl) ?_
        refine Rg_run rfl (o_pickT (v := .bool _) (congrArg Value.bool (decide_eq_true hne)) rfl) ?_
        refine Rg_run rfl (o_assignh (v := .bool _) rfl) ?_
        refine Rg_nil ?_
        refine W_cond_false (congrArg Value.bool (decide_eq_false (Int.not_lt.2 (rdV_small hbig)))) ?_
        refine W_seq (W_region ?_)
        refine Rg_run rfl (o_loadS Tryz.isAgg36 Tryz.sizeOf36 rfl hb6.at rfl) ?_
        refine Rg_storeW (v := .agg _) rfl Tryz.sizeOf36 rfl rfl hb4 rfl rfl rfl ?_
        intro w40 c41 hb4
        change Box _ _ _ (wsC _ _ _) at hb4
        have z42 := Bel.size c41
        replace hX := Bel.out hX c41 (fun g h1 h2 => by first | exact h2 | (cases h2; rfl) | (exfalso; omega))
        replace hr0 := hr0.keepD c41 (fun g h1 h2 h3 => by omega)
        replace hq21 := hq21.keep c41 (fun g h1 h2 h3 => by omega)
        refine Rg_nil (W_ret ?_)
        refine ⟨_, res_1 (v := .agg _) rfl (rv_cellS Tryz.isAgg36 Tryz.sizeOf36 rfl hb4.at rfl), ?_⟩
        have hE := rdV_ok hbad hbig
        rw [setS_ok hok hok2 hbad hbig]; exact ⟨⟨a21, c21, by show Value.agg #[.slice a21 (rdV (bytesS s 512).2).length c21] = _; rw [hE]; rfl, by rw [← hE]; exact hq21.mono (fun g h1 h2 => ⟨by omega, h1⟩)⟩, hr0.mono (fun g h1 h2 => h2.1), hX⟩
      refine Rg_run rfl (o_moveh (v := .bool _) rfl) ?_
      refine Rg_off 1 42 rfl rfl (congrArg Value.bool (decide_eq_false hne)) rfl rfl ?_
      refine Rg_off 1 42 rfl rfl (congrArg Value.bool (decide_eq_false hne)) rfl rfl ?_
      refine Rg_off 1 42 rfl rfl (congrArg Value.bool (decide_eq_false hne)) rfl rfl ?_
      refine Rg_run rfl (o_pickF (v := .bool _) (congrArg Value.bool (decide_eq_false hne)) rfl) ?_
      refine Rg_run rfl (o_assignh (v := .bool _) rfl) ?_
      refine Rg_nil ?_
      refine W_cond_false rfl ?_
      refine W_seq (W_region ?_)
      refine Rg_run rfl (o_loadS Tryz.isAgg36 Tryz.sizeOf36 rfl hb6.at rfl) ?_
      refine Rg_storeW (v := .agg _) rfl Tryz.sizeOf36 rfl rfl hb4 rfl rfl rfl ?_
      intro w43 c44 hb4
      change Box _ _ _ (wsC _ _ _) at hb4
      have z45 := Bel.size c44
      replace hX := Bel.out hX c44 (fun g h1 h2 => by first | exact h2 | (cases h2; rfl) | (exfalso; omega))
      replace hr0 := hr0.keepD c44 (fun g h1 h2 h3 => by omega)
      replace hq21 := hq21.keep c44 (fun g h1 h2 h3 => by omega)
      refine Rg_nil (W_ret ?_)
      refine ⟨_, res_1 (v := .agg _) rfl (rv_cellS Tryz.isAgg36 Tryz.sizeOf36 rfl hb4.at rfl), ?_⟩
      have hE := rdV_ok hbad hbig
      rw [setS_ok hok hok2 hbad hbig]; exact ⟨⟨a21, c21, by show Value.agg #[.slice a21 (rdV (bytesS s 512).2).length c21] = _; rw [hE]; rfl, by rw [← hE]; exact hq21.mono (fun g h1 h2 => ⟨by omega, h1⟩)⟩, hr0.mono (fun g h1 h2 => h2.1), hX⟩
    refine Rg_enter rfl (o_call1 Tryz.call96 rfl) (Ok.mono (rok_ok (.pointer (some ⟨b, 0, none⟩)) _ (bytesS s 512).1 _ hr0) ?_)
    rintro _ w46 ⟨rfl, x47⟩
    have z48 := Bel.size x47
    replace hX := Bel.ex hX x47
    replace hr0 := hr0.ext x47
    replace hb4 := hb4.ext x47
    refine Rg_run rfl (o_not rfl) ?_
    refine Rg_nil ?_
    refine W_cond_true (congrArg Value.bool (show (!((bytesS s 512).1.2 == 0)) = true by simp only [Bool.not_eq_true] at hok2; rw [hok2]; rfl)) ?_
    refine W_seq (W_region ?_)
    refine Rg_run rfl (o_build (cells := [.slice none 0 0]) (vs := []) rfl (by kernel_rfl)) ?_
    refine Rg_storeW (v := .agg _) rfl Tryz.sizeOf36 rfl rfl hb4 rfl rfl rfl ?_
    intro w49 c50 hb4
    change Box _ _ _ (wsC _ _ _) at hb4
    have z51 := Bel.size c50
    replace hX := Bel.out hX c50 (fun g h1 h2 => by first | exact h2 | (cases h2; rfl) | (exfalso; omega))
    replace hr0 := hr0.keepD c50 (fun g h1 h2 h3 => by omega)
    refine Rg_nil (W_ret ?_)
    refine ⟨_, res_1 (v := .agg _) rfl (rv_cellS Tryz.isAgg36 Tryz.sizeOf36 rfl hb4.at rfl), ?_⟩
    rw [setS_er hok hok2]; exact ⟨⟨none, 0, rfl, Sl.none⟩, hr0.mono (fun g h1 h2 => h2.1), hX⟩
  refine Rg_enter rfl (o_call1 Tryz.call96 rfl) (Ok.mono (rok_ok (.pointer (some ⟨b, 0, none⟩)) _ s _ hr0) ?_)
  rintro _ w52 ⟨rfl, x53⟩
  have z54 := Bel.size x53
  replace hX := Bel.ex hX x53
  replace hr0 := hr0.ext x53
  replace hb4 := hb4.ext x53
  refine Rg_run rfl (o_not rfl) ?_
  refine Rg_nil ?_
  refine W_cond_true (congrArg Value.bool (show (!(s.2 == 0)) = true by simp only [Bool.not_eq_true] at hok; rw [hok]; rfl)) ?_
  refine W_seq (W_region ?_)
  refine Rg_run rfl (o_build (cells := [.slice none 0 0]) (vs := []) rfl (by kernel_rfl)) ?_
  refine Rg_storeW (v := .agg _) rfl Tryz.sizeOf36 rfl rfl hb4 rfl rfl rfl ?_
  intro w55 c56 hb4
  change Box _ _ _ (wsC _ _ _) at hb4
  have z57 := Bel.size c56
  replace hX := Bel.out hX c56 (fun g h1 h2 => by first | exact h2 | (cases h2; rfl) | (exfalso; omega))
  replace hr0 := hr0.keepD c56 (fun g h1 h2 h3 => by omega)
  refine Rg_nil (W_ret ?_)
  refine ⟨_, res_1 (v := .agg _) rfl (rv_cellS Tryz.isAgg36 Tryz.sizeOf36 rfl hb4.at rfl), ?_⟩
  rw [setS_no hok]; exact ⟨⟨none, 0, rfl, Sl.none⟩, hr0.mono (fun g h1 h2 => h2.1), hX⟩

theorem beqb_ok (v0 v1 : Value) (A C : Nat → Prop) (x y : List UInt8) (w : World) (hx : Rd encB 1 A w v0 x) (hy : Rd encB 1 C w v1 y) : Ok Tryz.prog 58 #[v0, v1] w fun v w' => v = .bool (x == y) ∧ Ext False w w' := by
  obtain ⟨a, c, rfl, hx⟩ := hx
  obtain ⟨b, d, rfl, hy⟩ := hy
  refine Ok_of_W 10 Tryz.func58 rfl rfl rfl ?_
  have hX : Ext False w w := Bel.refl _ _
  refine W_seq (W_region ?_)
  refine Rg_run rfl o_assignc ?_
  refine Rg_nil (W_seq (W_region ?_))
  refine Rg_run rfl (o_moveh (v := .slice _ _ _) rfl) ?_
  refine Rg_run rfl (o_bs Tryz.underlying30 Tryz.underlying5 Tryz.underlying9 rfl hx) ?_
  refine Rg_run rfl (o_moveh (v := .slice _ _ _) rfl) ?_
  refine Rg_run rfl (o_bs Tryz.underlying30 Tryz.underlying5 Tryz.underlying9 rfl hy) ?_
  refine Rg_run rfl (o_seql rfl rfl) ?_
  refine Rg_run rfl (o_assignh (v := .bool _) rfl) ?_
  refine Rg_nil (W_ret ?_)
  refine ⟨_, res_tmp rfl rfl, ?_⟩
  refine ⟨congrArg Value.bool ?_, hX⟩
  all_goals (rfl)

end Go.Proofs.YtncmjgmlnnenhaaGreatDoor
