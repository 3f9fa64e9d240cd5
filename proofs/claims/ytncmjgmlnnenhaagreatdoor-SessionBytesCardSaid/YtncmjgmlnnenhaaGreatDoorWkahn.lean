/- Walks, printed by program: each theorem says what a function of the translation returns. -/
import Derived.Test.YtncmjgmlnnenhaaGreatDoorWod
import Derived.Test.YtncmjgmlnnenhaaGreatDoorPtr
namespace Go.Proofs.YtncmjgmlnnenhaaGreatDoor
open Go Go.Lx Go.RowKit
set_option maxRecDepth 100000
set_option linter.unusedVariables false
set_option linter.unusedSimpArgs false
set_option linter.unnecessarySimpa false
theorem iindexN_ok (a : Option Addr) (c : Nat) (B : Nat → Prop) (l : List Int) (x : Int) (w : World) (hs : Sl encJ 1 B w a c l) (n : Nat) (hn : n = l.length) : Ok Tryz.prog 170 #[.slice a n c, .int .i64 x] w fun v w' => v = .int .i64 (ixOf (fun y => x == y) l) ∧ Ext False w w' := by
  subst hn; exact iindex_ok a c B l x w hs
theorem osort_ok (po : Nat) (ap : Option Addr) (cp : Nat) (ps : List Pr) (va vb : Value) (ρ : Fin 64 → Nat) (w : World) (ho : Box w po 201 [.int .i64 64, .slice ap ps.length cp, va, vb, .slice none 0 0]) (hps : Sl encPr 2 (fun g => g ≠ po) w ap cp ps) (hn : ps.length ≤ 1000000) (hρ : ∀ x ∈ ps, ρ x.1 < ρ x.2) : Ok Tryz.prog 137 #[.pointer (some ⟨po, 0, none⟩)] w fun v w' => v = .bool true ∧ ∃ (srt : List (Fin 64)) (a : Option Addr) (c : Nat), Topo ps srt ∧ srt.length = 64 ∧ Box w' po 201 [.int .i64 64, .slice ap ps.length cp, va, vb, .slice a 64 c] ∧ Sl encJ 1 (Fsh w w') w' a c (srt.map iv) ∧ Bel False (fun g => g = po) w w' := by
  replace hps := hps.mono (F' := fun g => g ≠ po ∧ g < w.heap.size) (fun g h1 h2 => ⟨h2, h1⟩)
  have hol := ho.lt
  obtain ⟨n0, hn0⟩ : ∃ n, n = w.heap.size := ⟨_, rfl⟩
  refine Ok_of_W 79 Tryz.func137 rfl rfl rfl ?_
  have hX : Bel False (fun g => g = po ∨ w.heap.size ≤ g) w w := Bel.refl _ _
  refine W_seq (W_region ?_)
  refine Rg_run rfl o_assignc ?_
  refine Rg_nil (W_seq (W_region ?_))
  refine Rg_run rfl (o_moveh (v := .pointer _) rfl) ?_
  refine Rg_run rfl (o_nilc rfl) ?_
  refine Rg_run rfl (o_fa Tryz.underlying201 rfl Tryz.sizeOf3 rfl) ?_
  refine Rg_run rfl (o_load1 Tryz.isAgg3 rfl (ho.at.get 0 rfl)) ?_
  refine Rg_make (m := 64) (0 : Int) rfl encJ_ok el_int rfl rfl rfl (by decide) ?_
  intro a13 w1 x2 hown13
  have z3 := Bel.size x2
  replace hX := Bel.ex hX x2
  replace ho := ho.ext x2
  replace hps := hps.ext x2
  obtain ⟨n1, hn1⟩ : ∃ n, n = w1.heap.size := ⟨_, rfl⟩
  rw [rep_lof] at hown13
  replace hown13 := hown13.mono (D' := fun g => n0 ≤ g ∧ g < n1) (fun g h1 h2 => by omega)
  refine Rg_run rfl (o_assignh (v := .slice _ _ _) rfl) ?_
  refine Rg_nil (W_seq (W_seq (W_region ?_)))
  refine Rg_run rfl (o_moveh (v := .pointer _) rfl) ?_
  refine Rg_run rfl (o_nilc rfl) ?_
  refine Rg_run rfl (o_fa Tryz.underlying201 rfl Tryz.sizeOf66 rfl) ?_
  refine Rg_run rfl (o_load1 Tryz.isAgg66 rfl (ho.at.get 1 rfl)) ?_
  refine Rg_run rfl (o_llen Tryz.underlying66 rfl) ?_
  refine Rg_run rfl o_movec ?_
  refine Rg_nil (W_block ?_)
  refine W_for (α := Nat) [(5, 5), (19, 30)] (fun k => [(19, .int .i64 (k : Int))]) (fun k w' => (k ≤ ps.length) ∧ Bel False (fun g => n0 ≤ g) w1 w' ∧ (Own encJ 1 3 (fun g => n0 ≤ g ∧ g < n1) w' (.slice a13 64 64) (lof fun i => (cIn (ps.take k) i : Int)))) (fun k => ps.length - k) 0 ⟨rfl, trivial⟩ ⟨Nat.zero_le _, Bel.refl _ _, hown13⟩ ?_
  rintro k fb6 w5 ⟨hk, hXL4, hown13⟩
  have z7 := Bel.size hXL4
  replace hX := Bel.out hX hXL4 (fun g h1 h2 => by first | exact h2 | omega)
  replace ho := ho.keep hXL4 (fun h => by omega)
  replace hps := hps.keep hXL4 (fun g h1 h2 h3 => by omega)
  refine W_seq (W_region ?_)
  refine Rg_run rfl (o_lss rfl rfl) ?_
  refine Rg_nil (W_seq ?_)
  refine W_cond rfl (fun hc1 => ?_) (fun hc1 => ?_)
  · skip
    replace hc1 := of_decide_eq_true hc1
    refine W_skip (W_seq (W_block (W_seq (W_region ?_))))
    refine Rg_run rfl (o_iaR Tryz.underlying66 Tryz.sizeOf127 hps rfl rfl (by first | omega | (unfold I64; omega) | (simp; done) | (simp; omega) | (simp at *; omega))) ?_
    refine Rg_run rfl (o_ldRS Tryz.isAgg127 Tryz.sizeOf127 hps rfl (getE pz0 (by omega))) ?_
    refine Rg_alst rfl rfl Tryz.zeroValue127 rfl Tryz.sizeOf127 (fun _ => rfl) rfl rfl ?_
    intro b5 w8 x9 hge5 hb5
    have hlt5 := hb5.lt
    change Box _ _ _ (encPr _) at hb5
    have z10 := Bel.size x9
    replace hX := Bel.ex hX x9
    replace hXL4 := Bel.ex hXL4 x9
    replace hown13 := hown13.ext x9
    refine Rg_nil (W_region ?_)
    refine Rg_run rfl (o_moveh (v := .slice _ _ _) rfl) ?_
    refine Rg_run rfl (o_iaA (i := 1) Tryz.underlying127 Tryz.sizeOf3 rfl rfl (by decide)) ?_
    refine Rg_run rfl (o_load1 Tryz.isAgg3 rfl (hb5.at.get 1 rfl)) ?_
    refine Rg_run rfl (o_iaO (i := (ps.getD k pz0).2.val) Tryz.underlying109 Tryz.sizeOf3 hown13 rfl rfl (by omega)) ?_
    refine Rg_run rfl (o_ldR Tryz.isAgg3 (hown13.slA encJ_ok) rfl rfl (lof_get _ (ps.getD k pz0).2.isLt) rfl) ?_
    refine Rg_run rfl (o_add rfl rfl (by have := c_le (ps.take k) (fun x => x.2.val == (ps.getD k pz0).2.val); rw [List.length_take] at this; unfold cIn I64; omega)) ?_
    refine Rg_run rfl (o_iaO (i := (ps.getD k pz0).2.val) Tryz.underlying109 Tryz.sizeOf3 hown13 rfl rfl (by omega)) ?_
    refine Rg_elst (u := (cIn (ps.take k) (ps.getD k pz0).2.val : Int) + 1) rfl encJ_ok Tryz.sizeOf3 rfl rfl rfl hown13 (by rw [lof_len]; exact (ps.getD k pz0).2.isLt) ?_
    intro w11 x12 hown13
    have z13 := Bel.size x12
    replace hX := Bel.out hX x12 (fun g h1 h2 => by first | exact h2 | omega)
    replace hXL4 := Bel.out hXL4 x12 (fun g h1 h2 => by first | exact h2 | omega)
    refine Rg_nil (W_region ?_)
    refine Rg_run rfl (o_add rfl rfl (by first | omega | (unfold I64; omega) | (simp; done) | (simp; omega) | (simp at *; omega))) ?_
    refine Rg_run rfl (o_moveh (v := .int _ _) rfl) ?_
    refine Rg_nil ?_
    refine ⟨k + 1, ⟨?_, trivial⟩, ?_, ⟨?_, hXL4, ?_⟩, ?_⟩
    · first | rfl | (go_num) | (exact congrArg _ (by omega))
    · repeat (first | exact off_refl _ _ | exact off_mix | refine off_put rfl ?_ | refine off_putN ?_ | refine off_setL rfl ?_ | refine off_mix' rfl ?_)
    · show k + 1 ≤ ps.length; omega
    · rw [cIn_set (by omega)] at hown13
      exact hown13
    · omega
  replace hc1 := of_decide_eq_false hc1
  refine W_exit (exAt_hit (W_seq (W_block ?_)))
  refine W_for (α := List (Fin 64) × Value) [(2, 2), (6, 6), (8, 8), (31, 78)] (fun p => []) (fun p w' => (Topo ps p.1 ∧ p.1.length ≤ 64) ∧ Bel False (fun g => g = po ∨ n0 ≤ g) w5 w' ∧ (Box w' po 201 [.int .i64 64, .slice ap ps.length cp, va, vb, p.2] ∧ Own encJ 1 3 (fun g => n1 ≤ g) w' p.2 (p.1.map iv) ∧ Own encJ 1 3 (fun g => n0 ≤ g ∧ g < n1) w' (.slice a13 64 64) (lof (lfA ps p.1)))) (fun p => 64 - p.1.length) ([], .slice none 0 0) trivial ⟨⟨Topo.nil ps, by decide⟩, Bel.refl _ _, ⟨ho, Own.nil _ _, (by rw [show k = ps.length by omega, lfA_start] at hown13; exact hown13)⟩⟩ ?_
  rintro ⟨srt, vs⟩ fb16 w15 ⟨⟨ht, hl64⟩, hXL14, ⟨ho, howns, hown13⟩⟩
  dsimp only at *
  have z17 := Bel.size hXL14
  replace hX := Bel.out hX hXL14 (fun g h1 h2 => by first | exact h2 | omega)
  replace hps := hps.keep hXL14 (fun g h1 h2 h3 => by omega)
  obtain ⟨sa, sc, rfl, -⟩ := howns.sl encJ_ok
  have hlm : (srt.map iv).length = srt.length := by simp
  refine W_seq (W_seq ?_)
  apply W_draw (β := False) [peq _, peq _, peq _, peq _, peq _, peq _, peq _, peq _, peq _, peq _] 10 mixed (by kernel_rfl) rfl ⟨peq_stable _, peq_stable _, peq_stable _, peq_stable _, peq_stable _, peq_stable _, peq_stable _, peq_stable _, peq_stable _, peq_stable _, trivial⟩ ?ob7 ?fin7
  case ob7 =>
    refine OblL_cons (fun w18 x19 => ?_) ?_
    · skip
      have z20 := Bel.size x19
      refine bindP_nil ?_
      exact OpS_v rfl (o_moveh (v := .pointer _) rfl)
    refine OblL_cons (fun w21 x22 => ?_) ?_
    · skip
      have z23 := Bel.size x22
      refine bindP_eq (bindP_nil ?_)
      exact OpS_v rfl (o_nilc rfl)
    refine OblL_cons (fun w24 x25 => ?_) ?_
    · skip
      have z26 := Bel.size x25
      refine bindP_eq (bindP_nil ?_)
      exact OpS_v rfl (o_fa Tryz.underlying201 rfl Tryz.sizeOf109 rfl)
    refine OblL_cons (fun w27 x28 => ?_) ?_
    · skip
      have z29 := Bel.size x28
      have ho := ho.ext x28
      refine bindP_eq (bindP_nil ?_)
      exact OpS_v rfl (o_load1 Tryz.isAgg109 rfl (ho.at.get 4 rfl))
    refine OblL_cons (fun w30 x31 => ?_) ?_
    · skip
      have z32 := Bel.size x31
      refine bindP_eq (bindP_nil ?_)
      exact OpS_v rfl (o_llen Tryz.underlying109 rfl)
    refine OblL_cons (fun w33 x34 => ?_) ?_
    · skip
      have z35 := Bel.size x34
      refine bindP_nil ?_
      exact OpS_v rfl (o_moveh (v := .pointer _) rfl)
    refine OblL_cons (fun w36 x37 => ?_) ?_
    · skip
      have z38 := Bel.size x37
      refine bindP_eq (bindP_nil ?_)
      exact OpS_v rfl (o_nilc rfl)
    refine OblL_cons (fun w39 x40 => ?_) ?_
    · skip
      have z41 := Bel.size x40
      refine bindP_eq (bindP_nil ?_)
      exact OpS_v rfl (o_fa Tryz.underlying201 rfl Tryz.sizeOf3 rfl)
    refine OblL_cons (fun w42 x43 => ?_) ?_
    · skip
      have z44 := Bel.size x43
      have ho := ho.ext x43
      refine bindP_eq (bindP_nil ?_)
      exact OpS_v rfl (o_load1 Tryz.isAgg3 rfl (ho.at.get 0 rfl))
    refine OblL_cons (fun w45 x46 => ?_) ?_
    · skip
      have z47 := Bel.size x46
      refine bindP_eq (bindP_eq (bindP_nil ?_))
      exact OpS_v rfl (o_lss rfl rfl)
    exact OblL_nil
  case fin7 =>
    intro w48 x49
    have z50 := Bel.size x49
    replace hX := Bel.ex hX x49
    replace hXL14 := Bel.ex hXL14 x49
    replace hps := hps.ext x49
    replace hown13 := hown13.ext x49
    replace ho := ho.ext x49
    replace howns := howns.ext x49
    refine bindP_eq (bindP_eq (bindP_eq (bindP_eq (bindP_eq (bindP_eq (bindP_eq (bindP_eq (bindP_eq ?_))))))))
    refine bindP_eq (bindP_nil (Rg_nil ?_))
    refine W_cond rfl (fun hc2 => ?_) (fun hc2 => ?_)
    · skip
      replace hc2 := of_decide_eq_true hc2
      refine W_skip (W_block (W_seq (W_region ?_)))
      refine Rg_run rfl (o_moveh (v := .slice _ _ _) rfl) ?_
      refine Rg_enter rfl (o_call2 Tryz.call170 rfl rfl) (Ok.mono (iindexN_ok _ _ _ _ 0 _ (hown13.slA encJ_ok) 64 (lof_len _).symm) ?_)
      rintro _ w51 ⟨rfl, x52⟩
      have z53 := Bel.size x52
      replace hX := Bel.ex hX x52
      replace hXL14 := Bel.ex hXL14 x52
      replace hps := hps.ext x52
      replace hown13 := hown13.ext x52
      replace ho := ho.ext x52
      replace howns := howns.ext x52
      obtain ⟨kk, hk1, hk2⟩ := ix_zero (zero_ex (srt := srt) ρ hρ (by omega))
      rw [hk1]
      have hkl := kk.isLt
      refine Rg_run rfl (o_assignh (v := .int _ _) rfl) ?_
      refine Rg_nil (W_seq (W_seq (W_region ?_)))
      refine Rg_run rfl (o_moveh (v := .int _ _) rfl) ?_
      refine Rg_run rfl (o_lss rfl rfl) ?_
      refine Rg_nil ?_
      refine W_cond_false (congrArg Value.bool (decide_eq_false (by omega))) ?_
      refine W_skip (W_seq (W_region ?_))
      refine Rg_run rfl (o_moveh (v := .slice _ _ _) rfl) ?_
      refine Rg_run rfl (o_moveh (v := .int _ _) rfl) ?_
      refine Rg_run rfl (o_iaO (i := kk.val) Tryz.underlying109 Tryz.sizeOf3 hown13 rfl rfl (by omega)) ?_
      refine Rg_elst (u := -1) rfl encJ_ok Tryz.sizeOf3 rfl rfl rfl hown13 (by rw [lof_len]; exact kk.isLt) ?_
      intro w54 x55 hown13
      have z56 := Bel.size x55
      replace hX := Bel.out hX x55 (fun g h1 h2 => by first | exact h2 | omega)
      replace hXL14 := Bel.out hXL14 x55 (fun g h1 h2 => by first | exact h2 | omega)
      replace hps := hps.keep x55 (fun g h1 h2 h3 => by omega)
      replace ho := ho.keep x55 (fun h => by omega)
      replace howns := howns.keepD x55 (fun g h1 h2 h3 => by omega)
      rw [lfB_start] at hown13
      refine Rg_nil (W_seq (W_region ?_))
      refine Rg_run rfl (o_moveh (v := .pointer _) rfl) ?_
      refine Rg_run rfl (o_moveh (v := .pointer _) rfl) ?_
      refine Rg_run rfl (o_nilc rfl) ?_
      refine Rg_run rfl (o_fa Tryz.underlying201 rfl Tryz.sizeOf109 rfl) ?_
      refine Rg_run rfl (o_load1 Tryz.isAgg109 rfl (ho.at.get 4 rfl)) ?_
      refine Rg_run rfl (o_moveh (v := .int _ _) rfl) ?_
      refine Rg_bs (vs := [.int _ _]) ([iv kk]) rfl encJ_ok el_int rfl rfl ⟨rfl, trivial⟩ rfl rfl rfl rfl ?_
      intro a54 w57 x58 hown54
      have z59 := Bel.size x58
      replace hX := Bel.ex hX x58
      replace hXL14 := Bel.ex hXL14 x58
      replace hps := hps.ext x58
      replace hown13 := hown13.ext x58
      replace ho := ho.ext x58
      replace howns := howns.ext x58
      replace hown54 := hown54.mono (D' := fun g => w.heap.size ≤ g) (fun g h1 h2 => by omega)
      refine Rg_app rfl encJ_ok el_int rfl rfl howns (hown54.slA encJ_ok) rfl (by simp; omega) (fun g h => by omega) ?_
      intro v55 w60 x61 howns
      have z62 := Bel.size x61
      replace hX := Bel.out hX x61 (fun g h1 h2 => by first | exact h2 | omega)
      replace hXL14 := Bel.out hXL14 x61 (fun g h1 h2 => by first | exact h2 | omega)
      replace hps := hps.keep x61 (fun g h1 h2 h3 => by omega)
      replace hown13 := hown13.keepD x61 (fun g h1 h2 h3 => by omega)
      replace ho := ho.keep x61 (fun h => by omega)
      obtain ⟨sa2, sc2, hv55, -⟩ := howns.sl encJ_ok
      subst hv55
      refine Rg_run rfl (o_nilc rfl) ?_
      refine Rg_run rfl (o_fa Tryz.underlying201 rfl Tryz.sizeOf109 rfl) ?_
      refine Rg_store (v := .slice _ _ _) rfl Tryz.sizeOf109 rfl rfl ho rfl rfl rfl ?_
      intro w63 c64 ho
      have z65 := Bel.size c64
      replace hX := Bel.out hX c64 (fun g h1 h2 => by first | exact h2 | omega)
      replace hXL14 := Bel.out hXL14 c64 (fun g h1 h2 => by first | exact h2 | omega)
      replace hps := hps.keep c64 (fun g h1 h2 h3 => by omega)
      replace hown13 := hown13.keepD c64 (fun g h1 h2 h3 => by omega)
      replace howns := howns.keepD c64 (fun g h1 h2 h3 => by omega)
      refine Rg_nil (W_seq (W_region ?_))
      refine Rg_run rfl (o_moveh (v := .pointer _) rfl) ?_
      refine Rg_run rfl (o_nilc rfl) ?_
      refine Rg_run rfl (o_fa Tryz.underlying201 rfl Tryz.sizeOf66 rfl) ?_
      refine Rg_run rfl (o_load1 Tryz.isAgg66 rfl (ho.at.get 1 rfl)) ?_
      refine Rg_run rfl (o_llen Tryz.underlying66 rfl) ?_
      refine Rg_run rfl o_movec ?_
      refine Rg_nil (W_block ?_)
      refine W_for (α := Nat) [(8, 8), (63, 78)] (fun k => [(63, .int .i64 (k : Int))]) (fun k w' => (k ≤ ps.length) ∧ Bel False (fun g => n0 ≤ g ∧ g < n1) w63 w' ∧ (Own encJ 1 3 (fun g => n0 ≤ g ∧ g < n1) w' (.slice a13 64 64) (lof (lfB ps srt kk k)))) (fun k => ps.length - k) 0 ⟨rfl, trivial⟩ ⟨Nat.zero_le _, Bel.refl _ _, hown13⟩ ?_
      rintro k fb68 w67 ⟨hk, hXL66, hown13⟩
      have z69 := Bel.size hXL66
      replace hX := Bel.out hX hXL66 (fun g h1 h2 => by first | exact h2 | omega)
      replace hXL14 := Bel.out hXL14 hXL66 (fun g h1 h2 => by first | exact h2 | omega)
      replace hps := hps.keep hXL66 (fun g h1 h2 h3 => by omega)
      replace ho := ho.keep hXL66 (fun h => by omega)
      replace howns := howns.keepD hXL66 (fun g h1 h2 h3 => by omega)
      refine W_seq (W_region ?_)
      refine Rg_run rfl (o_lss rfl rfl) ?_
      refine Rg_nil (W_seq ?_)
      refine W_cond rfl (fun hc4 => ?_) (fun hc4 => ?_)
      · skip
        replace hc4 := of_decide_eq_true hc4
        refine W_skip (W_seq (W_block (W_seq (W_region ?_))))
        refine Rg_run rfl (o_iaR Tryz.underlying66 Tryz.sizeOf127 hps rfl rfl (by first | omega | (unfold I64; omega) | (simp; done) | (simp; omega) | (simp at *; omega))) ?_
        refine Rg_run rfl (o_ldRS Tryz.isAgg127 Tryz.sizeOf127 hps rfl (getE pz0 (by omega))) ?_
        refine Rg_alst rfl rfl Tryz.zeroValue127 rfl Tryz.sizeOf127 (fun _ => rfl) rfl rfl ?_
        intro b8 w70 x71 hge8 hb8
        have hlt8 := hb8.lt
        change Box _ _ _ (encPr _) at hb8
        have z72 := Bel.size x71
        replace hX := Bel.ex hX x71
        replace hXL14 := Bel.ex hXL14 x71
        replace hXL66 := Bel.ex hXL66 x71
        replace hown13 := hown13.ext x71
        refine Rg_nil (W_seq (W_region ?_))
        refine Rg_run rfl (o_iaA (i := 0) Tryz.underlying127 Tryz.sizeOf3 rfl rfl (by decide)) ?_
        refine Rg_run rfl (o_load1 Tryz.isAgg3 rfl (hb8.at.get 0 rfl)) ?_
        refine Rg_run rfl (o_moveh (v := .int _ _) rfl) ?_
        refine Rg_run rfl (o_eql rfl rfl) ?_
        refine Rg_nil ?_
        refine W_cond rfl (fun hc5 => ?_) (fun hc5 => ?_)
        · skip
          have hx1 : (ps.getD k pz0).1 = kk := iv_inj.1 (by simpa [iv] using hc5)
          refine W_region ?_
          refine Rg_run rfl (o_moveh (v := .slice _ _ _) rfl) ?_
          refine Rg_run rfl (o_iaA (i := 1) Tryz.underlying127 Tryz.sizeOf3 rfl rfl (by decide)) ?_
          refine Rg_run rfl (o_load1 Tryz.isAgg3 rfl (hb8.at.get 1 rfl)) ?_
          refine Rg_run rfl (o_iaO (i := (ps.getD k pz0).2.val) Tryz.underlying109 Tryz.sizeOf3 hown13 rfl rfl (by omega)) ?_
          refine Rg_run rfl (o_ldR Tryz.isAgg3 (hown13.slA encJ_ok) rfl rfl (lof_get _ (ps.getD k pz0).2.isLt) rfl) ?_
          refine Rg_run rfl (o_sub rfl rfl (by have := lfB_rng ps srt kk k (ps.getD k pz0).2.val; unfold I64; omega)) ?_
          refine Rg_run rfl (o_iaO (i := (ps.getD k pz0).2.val) Tryz.underlying109 Tryz.sizeOf3 hown13 rfl rfl (by omega)) ?_
          refine Rg_elst (u := lfB ps srt kk k (ps.getD k pz0).2.val - 1) rfl encJ_ok Tryz.sizeOf3 rfl rfl rfl hown13 (by rw [lof_len]; exact (ps.getD k pz0).2.isLt) ?_
          intro w73 x74 hown13
          have z75 := Bel.size x74
          replace hX := Bel.out hX x74 (fun g h1 h2 => by first | exact h2 | omega)
          replace hXL14 := Bel.out hXL14 x74 (fun g h1 h2 => by first | exact h2 | omega)
          replace hXL66 := Bel.out hXL66 x74 (fun g h1 h2 => by first | exact h2 | omega)
          refine Rg_nil (W_region ?_)
          refine Rg_run rfl (o_add rfl rfl (by first | omega | (unfold I64; omega) | (simp; done) | (simp; omega) | (simp at *; omega))) ?_
          refine Rg_run rfl (o_moveh (v := .int _ _) rfl) ?_
          refine Rg_nil ?_
          refine ⟨k + 1, ⟨?_, trivial⟩, ?_, ⟨?_, hXL66, ?_⟩, ?_⟩
          · first | rfl | (go_num) | (exact congrArg _ (by omega))
          · repeat (first | exact off_refl _ _ | exact off_mix | refine off_put rfl ?_ | refine off_putN ?_ | refine off_setL rfl ?_ | refine off_mix' rfl ?_)
          · show k + 1 ≤ ps.length; omega
          · rw [lfB_yes ht hk2 (by omega) hx1] at hown13; exact hown13
          · omega
        have hx1 : (ps.getD k pz0).1 ≠ kk := fun e => by rw [e] at hc5; simp [iv] at hc5
        refine W_skip (W_region ?_)
        refine Rg_run rfl (o_add rfl rfl (by first | omega | (unfold I64; omega) | (simp; done) | (simp; omega) | (simp at *; omega))) ?_
        refine Rg_run rfl (o_moveh (v := .int _ _) rfl) ?_
        refine Rg_nil ?_
        refine ⟨k + 1, ⟨?_, trivial⟩, ?_, ⟨?_, hXL66, ?_⟩, ?_⟩
        · first | rfl | (go_num) | (exact congrArg _ (by omega))
        · repeat (first | exact off_refl _ _ | exact off_mix | refine off_put rfl ?_ | refine off_putN ?_ | refine off_setL rfl ?_ | refine off_mix' rfl ?_)
        · show k + 1 ≤ ps.length; omega
        · rw [lfB_no (by omega) hx1]; exact hown13
        · omega
      replace hc4 := of_decide_eq_false hc4
      refine W_exit (exAt_hit ?_)
      refine ⟨(srt ++ [kk], .slice sa2 (srt.map iv ++ [iv kk]).length sc2), trivial, ?_, ⟨?_, hXL14, ?_⟩, ?_⟩
      · repeat (first | exact off_refl _ _ | exact off_mix | refine off_put rfl ?_ | refine off_putN ?_ | refine off_setL rfl ?_ | refine off_mix' rfl ?_)
      · exact ⟨ht.snoc hk2, by simp; omega⟩
      · rw [show k = ps.length by omega, lfB_end ps srt kk (zero_of hk2).1] at hown13
        exact ⟨ho, by rw [List.map_append]; exact howns, hown13⟩
      · simp; omega
    replace hc2 := of_decide_eq_false hc2
    refine W_exit (exAt_hit (W_seq (W_region ?_)))
    refine Rg_run rfl o_assignc ?_
    refine Rg_nil (W_ret ?_)
    refine ⟨_, res_tmp rfl rfl, ?_⟩
    have hl : (srt.map iv).length = 64 := by omega
    rw [hl] at ho
    exact ⟨rfl, srt, sa, sc, ht, by omega, ho, (howns.slA encJ_ok).mono (fun g h1 h2 => ⟨by omega, by omega⟩), hX.mono (fun g h1 h2 => by omega)⟩

end Go.Proofs.YtncmjgmlnnenhaaGreatDoor
