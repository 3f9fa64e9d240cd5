/- Walks, printed by program: each theorem says what a function of the translation returns. -/
import Derived.Test.YtncmjgmlnnenhaaGreatDoorWrel
import Derived.Test.YtncmjgmlnnenhaaGreatDoorHy
import Derived.Test.YtncmjgmlnnenhaaGreatDoorWpr
namespace Go.Proofs.YtncmjgmlnnenhaaGreatDoor
open Go Go.Lx Go.RowKit
set_option maxRecDepth 100000
set_option linter.unusedVariables false
set_option linter.unusedSimpArgs false
set_option linter.unnecessarySimpa false
theorem icompactV_ok (β : Prop) (B : Nat → Prop) (l : List Pr) (v : Value) (w : World) (ho : Own encPr 2 127 B w v l) : Ok Tryz.prog 136 #[v] w fun v' w' => Own encPr 2 127 B w' v' (compL l) ∧ Bel β B w w' := by
  obtain ⟨a, c, rfl, -⟩ := ho.sl encPr_ok
  refine (icompact_ok β a c B l w ho).mono ?_
  rintro _ w' ⟨m, rfl, h1, h2⟩
  exact ⟨h1, h2⟩
theorem pclipV_ok (B : Nat → Prop) (l : List Pr) (v : Value) (w : World) (ho : Own encPr 2 127 B w v l) : Ok Tryz.prog 135 #[v] w fun v' w' => (∃ a, v' = .slice a l.length l.length ∧ Sl encPr 2 B w' a l.length l) ∧ Ext False w w' := by
  obtain ⟨a, c, rfl, hs⟩ := ho.sl encPr_ok
  refine (pclip_ok a c l.length w hs.le).mono ?_
  rintro _ w' ⟨rfl, x⟩
  exact ⟨⟨a, rfl, hs.clip.ext x⟩, x⟩
theorem onew_ok (n64 : Nat) (v0 : Value) (B : Nat → Prop) (ps : List Pr) (ρ : Fin 64 → Nat) (w : World) (hs : Rd encPr 2 B w v0 ps) (hT : Tb w) (h64 : n64 = 64) (hn : ps.length ≤ 100000) (hρ : ∀ x ∈ ps, ρ x.1 < ρ x.2) : Ok Tryz.prog 79 #[.int .i64 (n64 : Int), v0] w fun v w' => OdRes ps (Fsh w w') v w' ∧ Ext False w w' := by
  obtain ⟨a, c, rfl, hs⟩ := hs
  replace hs := hs.top
  have hlen := hs.len
  have hTl := hT.lt
  subst h64
  obtain ⟨n0, hn0⟩ : ∃ n, n = w.heap.size := ⟨_, rfl⟩
  refine Ok_of_W 55 Tryz.func79 rfl rfl rfl ?_
  have hX : Ext False w w := Bel.refl _ _
  refine W_seq (W_region ?_)
  refine Rg_run rfl o_assignc ?_
  refine Rg_run rfl o_assignc ?_
  refine Rg_nil (W_seq (W_seq (W_region ?_)))
  refine Rg_run rfl (o_moveh (v := .int _ _) rfl) ?_
  refine Rg_run rfl (o_lss rfl rfl) ?_
  refine Rg_run rfl (o_moveh (v := .bool _) rfl) ?_
  refine Rg_may 2 12 rfl rfl rfl (fun hg => (o_moveh (v := .int _ _) rfl)) ?_
  refine Rg_may 2 12 rfl rfl rfl (fun hg => (o_gtr (gsel (u := undef) hg) rfl)) ?_
  refine Rg_run rfl (o_or (u := undef) rfl rfl) ?_
  refine Rg_nil ?_
  refine W_cond_false rfl ?_
  refine W_skip (W_seq (W_seq (W_region ?_)))
  refine Rg_run rfl (o_moveh (v := .slice _ _ _) rfl) ?_
  refine Rg_run rfl (o_llen Tryz.underlying66 rfl) ?_
  refine Rg_run rfl o_movec ?_
  refine Rg_nil (W_block ?_)
  refine W_for (α := Nat) [(4, 5), (7, 7), (18, 37)] (fun k => [(18, .int .i64 (k : Int))]) (fun k w' => (k ≤ ps.length) ∧ Ext False w w') (fun k => ps.length - k) 0 ⟨rfl, trivial⟩ ⟨Nat.zero_le _, Bel.refl _ _⟩ ?_
  rintro k fb3 w2 ⟨hk, hXL1⟩
  have z4 := Bel.size hXL1
  replace hX := Bel.ex hX hXL1
  replace hs := hs.ext hXL1
  replace hT := hT.ext hXL1
  refine W_seq (W_region ?_)
  refine Rg_run rfl (o_lss rfl rfl) ?_
  refine Rg_nil (W_seq ?_)
  refine W_cond rfl (fun hc2 => ?_) (fun hc2 => ?_)
  · skip
    replace hc2 := of_decide_eq_true hc2
    refine W_skip (W_seq (W_block (W_seq (W_region ?_))))
    refine Rg_run rfl (o_iaR Tryz.underlying66 Tryz.sizeOf127 hs rfl rfl (by first | omega | (unfold I64; omega) | (simp; done) | (simp; omega) | (simp at *; omega))) ?_
    refine Rg_run rfl (o_ldRS Tryz.isAgg127 Tryz.sizeOf127 hs rfl (getE pz0 (by omega))) ?_
    refine Rg_alst rfl rfl Tryz.zeroValue127 rfl Tryz.sizeOf127 (fun _ => rfl) rfl rfl ?_
    intro b7 w5 x6 hge7 hb7
    have hlt7 := hb7.lt
    change Box _ _ _ (encPr _) at hb7
    have z7 := Bel.size x6
    replace hX := Bel.ex hX x6
    replace hXL1 := Bel.ex hXL1 x6
    refine Rg_nil (W_seq (W_region ?_))
    refine Rg_run rfl (o_iaA (i := 0) Tryz.underlying127 Tryz.sizeOf3 rfl rfl (by decide)) ?_
    refine Rg_run rfl (o_load1 Tryz.isAgg3 rfl (hb7.at.get 0 rfl)) ?_
    refine Rg_run rfl (o_iaA (i := 1) Tryz.underlying127 Tryz.sizeOf3 rfl rfl (by decide)) ?_
    refine Rg_run rfl (o_load1 Tryz.isAgg3 rfl (hb7.at.get 1 rfl)) ?_
    refine Rg_run rfl (o_min rfl rfl) ?_
    refine Rg_run rfl (o_lss rfl rfl) ?_
    refine Rg_run rfl (o_moveh (v := .bool _) rfl) ?_
    refine Rg_on 6 28 rfl (congrArg Value.bool (decide_eq_false (by have h1 := iv_ge (ps.getD k pz0).1; have h2 := iv_ge (ps.getD k pz0).2; split <;> omega))) ?_
    refine Rg_run rfl (o_iaA (i := 0) Tryz.underlying127 Tryz.sizeOf3 rfl rfl (by decide)) ?_
    refine Rg_on 6 28 rfl (congrArg Value.bool (decide_eq_false (by have h1 := iv_ge (ps.getD k pz0).1; have h2 := iv_ge (ps.getD k pz0).2; split <;> omega))) ?_
    refine Rg_run rfl (o_load1 Tryz.isAgg3 rfl (hb7.at.get 0 rfl)) ?_
    refine Rg_on 6 28 rfl (congrArg Value.bool (decide_eq_false (by have h1 := iv_ge (ps.getD k pz0).1; have h2 := iv_ge (ps.getD k pz0).2; split <;> omega))) ?_
    refine Rg_run rfl (o_iaA (i := 1) Tryz.underlying127 Tryz.sizeOf3 rfl rfl (by decide)) ?_
    refine Rg_on 6 28 rfl (congrArg Value.bool (decide_eq_false (by have h1 := iv_ge (ps.getD k pz0).1; have h2 := iv_ge (ps.getD k pz0).2; split <;> omega))) ?_
    refine Rg_run rfl (o_load1 Tryz.isAgg3 rfl (hb7.at.get 1 rfl)) ?_
    refine Rg_on 6 28 rfl (congrArg Value.bool (decide_eq_false (by have h1 := iv_ge (ps.getD k pz0).1; have h2 := iv_ge (ps.getD k pz0).2; split <;> omega))) ?_
    refine Rg_run rfl (o_maxI rfl rfl) ?_
    refine Rg_on 6 28 rfl (congrArg Value.bool (decide_eq_false (by have h1 := iv_ge (ps.getD k pz0).1; have h2 := iv_ge (ps.getD k pz0).2; split <;> omega))) ?_
    refine Rg_run rfl (o_moveh (v := .int _ _) rfl) ?_
    refine Rg_on 6 28 rfl (congrArg Value.bool (decide_eq_false (by have h1 := iv_ge (ps.getD k pz0).1; have h2 := iv_ge (ps.getD k pz0).2; split <;> omega))) ?_
    refine Rg_run rfl (o_geq rfl rfl) ?_
    refine Rg_run rfl (o_pickF (v := .bool _) (congrArg Value.bool (decide_eq_false (by have h1 := iv_ge (ps.getD k pz0).1; have h2 := iv_ge (ps.getD k pz0).2; split <;> omega))) rfl) ?_
    refine Rg_nil ?_
    refine W_cond_false (congrArg Value.bool (decide_eq_false (by have h1 := iv_ge (ps.getD k pz0).1; have h2 := iv_ge (ps.getD k pz0).2; split <;> omega))) ?_
    refine W_skip (W_region ?_)
    refine Rg_run rfl (o_add rfl rfl (by first | omega | (unfold I64; omega) | (simp; done) | (simp; omega) | (simp at *; omega))) ?_
    refine Rg_run rfl (o_moveh (v := .int _ _) rfl) ?_
    refine Rg_nil ?_
    refine ⟨k + 1, ⟨?_, trivial⟩, ?_, ⟨?_, hXL1⟩, ?_⟩
    · first | rfl | (go_num) | (exact congrArg _ (by omega))
    · repeat (first | exact off_refl _ _ | exact off_mix | refine off_put rfl ?_ | refine off_putN ?_ | refine off_setL rfl ?_ | refine off_mix' rfl ?_)
    · show k + 1 ≤ ps.length; omega
    · omega
  replace hc2 := of_decide_eq_false hc2
  refine W_exit (exAt_hit (W_seq (W_region ?_)))
  refine Rg_bs (vs := []) (([] : List Pr)) rfl encPr_ok el_pr rfl rfl trivial rfl rfl rfl rfl ?_
  intro a38 w8 x9 hown38
  have z10 := Bel.size x9
  replace hX := Bel.ex hX x9
  replace hs := hs.ext x9
  replace hT := hT.ext x9
  replace hown38 := hown38.mono (D' := fun g => w.heap.size ≤ g) (fun g h1 h2 => by omega)
  refine Rg_run rfl (o_moveh (v := .slice _ _ _) rfl) ?_
  refine Rg_app rfl encPr_ok el_pr rfl rfl hown38 hs rfl (by simp; omega) (fun g h => by omega) ?_
  intro v40 w11 x12 hown38
  have z13 := Bel.size x12
  replace hX := Bel.out hX x12 (fun g h1 h2 => by first | exact h2 | omega)
  replace hT := hT.keep x12 (fun h => by omega)
  refine Rg_run rfl (o_assignh (v := v40) rfl) ?_
  refine Rg_nil (W_seq (W_region ?_))
  rw [List.nil_append] at hown38
  refine Rg_run rfl (o_moveh (v := v40) rfl) ?_
  refine Rg_enter rfl (o_call2 Tryz.call133 rfl rfl) (Ok.mono (sortpr_ok _ _ _ _ hown38 (by omega)) ?_)
  rintro _ w14 ⟨rfl, x15, l2, hpm, hpw, hown38⟩
  have z16 := Bel.size x15
  replace hX := Bel.out hX x15 (fun g h1 h2 => by first | exact h2 | omega)
  replace hT := hT.keep x15 (fun h => by omega)
  refine Rg_nil (W_seq (W_region ?_))
  refine Rg_run rfl (o_moveh (v := .int _ _) rfl) ?_
  refine Rg_run rfl (o_moveh (v := v40) rfl) ?_
  refine Rg_enter rfl (o_call1 Tryz.call136 rfl) (Ok.mono (icompactV_ok False _ _ _ _ hown38) ?_)
  rintro v45 w17 ⟨hown38, x18⟩
  have z19 := Bel.size x18
  replace hX := Bel.out hX x18 (fun g h1 h2 => by first | exact h2 | omega)
  replace hT := hT.keep x18 (fun h => by omega)
  refine Rg_enter rfl (o_call1 Tryz.call135 rfl) (Ok.mono (pclipV_ok _ _ _ _ hown38) ?_)
  rintro _ w20 ⟨⟨a46, rfl, hps⟩, x21⟩
  have z22 := Bel.size x21
  replace hX := Bel.ex hX x21
  replace hT := hT.ext x21
  replace hps := hps.mono (F' := fun g => n0 ≤ g ∧ g < w20.heap.size) (fun g h1 h2 => ⟨by omega, h1⟩)
  have hcl := compL_len l2
  have hpl := hpm.length_eq
  have hρ2 : ∀ x ∈ compL l2, ρ x.1 < ρ x.2 := fun x hx => hρ x (hpm.mem_iff.1 ((mem_compL x l2).1 hx))
  obtain ⟨n1, hn1⟩ : ∃ n, n = w20.heap.size := ⟨_, rfl⟩
  rw [← hn1] at hps
  refine Rg_run rfl (o_build (cells := [.int .i64 64, .slice a46 (compL l2).length (compL l2).length, .slice none 0 0, .slice none 0 0, .slice none 0 0]) (vs := [(0, .int _ _), (1, .slice _ _ _)]) rfl (by kernel_rfl)) ?_
  refine Rg_newB rfl (o_box (v := .agg _) rfl) ?_
  intro b48 w23 x24 hge48 hb48
  have hlt48 := hb48.lt
  have z25 := Bel.size x24
  replace hX := Bel.ex hX x24
  replace hT := hT.ext x24
  replace hps := hps.ext x24
  refine Rg_run rfl (o_assignh (v := .pointer _) rfl) ?_
  refine Rg_nil (W_seq (W_seq (W_region ?_)))
  change Box _ _ _ [.int .i64 64, .slice a46 (compL l2).length (compL l2).length, .slice none 0 0, .slice none 0 0, .slice none 0 0] at hb48
  have hb48n : n1 ≤ b48 := by omega
  refine Rg_run rfl (o_moveh (v := .pointer _) rfl) ?_
  refine Rg_enter rfl (o_call1 Tryz.call137 rfl) (Ok.mono (osort_ok _ _ _ (compL l2) _ _ ρ _ hb48 (hps.mono (fun g h1 h2 => by omega)) (by omega) hρ2) ?_)
  rintro _ w26 ⟨rfl, srt, sa, sc, ht, hl64, hb48, hsr, x27⟩
  have z28 := Bel.size x27
  replace hX := Bel.out hX x27 (fun g h1 h2 => by first | exact h2 | omega)
  replace hT := hT.keep x27 (fun h => by omega)
  replace hps := hps.keep x27 (fun g h1 h2 h3 => by omega)
  refine Rg_run rfl (o_not rfl) ?_
  refine Rg_nil ?_
  refine W_cond_false rfl ?_
  refine W_skip (W_seq (W_region ?_))
  refine Rg_run rfl (o_moveh (v := .pointer _) rfl) ?_
  refine Rg_enter rfl (o_call1 Tryz.call138 rfl) (Ok.mono (orel_ok _ _ _ (compL l2) _ _ srt ρ _ (by rw [hl64]; exact hb48) (hps.mono (fun g h1 h2 => by omega)) (sl_F (hsr.mono (fun g h1 h2 => by omega))) hT (by omega) (by omega) ht hl64 hρ2) ?_)
  rintro _ w29 ⟨rfl, aa, ab, la, lb, hb48, hsa, hsb, hwa, hwb, hla, hlb, hbel, x30⟩
  have z31 := Bel.size x30
  replace hX := Bel.out hX x30 (fun g h1 h2 => by first | exact h2 | omega)
  replace hps := hps.keep x30 (fun g h1 h2 h3 => by omega)
  refine Rg_nil (W_seq (W_region ?_))
  refine Rg_run rfl (o_moveh (v := .pointer _) rfl) ?_
  refine Rg_run rfl (o_assignh (v := .pointer _) rfl) ?_
  refine Rg_run rfl o_assignc ?_
  refine Rg_nil (W_ret ?_)
  refine ⟨_, res_tmp2 rfl rfl rfl, ?_⟩
  refine ⟨⟨b48, ⟨64, a46, (compL l2).length, compL l2, aa, 64, la, ab, 64, lb, sa, sc, srt.map iv⟩, rfl, ⟨⟨by omega, by have := hb48.lt; omega⟩, ?_, hps.mono (fun g h1 h2 => ⟨by omega, h1⟩), hsa.mono (fun g h1 h2 => ⟨by omega, h1⟩), hsb.mono (fun g h1 h2 => ⟨by omega, h1⟩), hwa.mono (fun g h1 h2 => ⟨by omega, h1⟩), hwb.mono (fun g h1 h2 => ⟨by omega, h1⟩), hla, hlb, Nat.le_refl _⟩, ?_⟩, hX⟩
  · have e : encOd ⟨64, a46, (compL l2).length, compL l2, aa, 64, la, ab, 64, lb, sa, sc, srt.map iv⟩ = [.int .i64 64, .slice a46 (compL l2).length (compL l2).length, .slice aa 64 64, .slice ab 64 64, .slice sa srt.length sc] := by simp [encOd, hla, hlb]
    rw [e]; exact hb48.at
  · have hm : ∀ x, x ∈ compL l2 ↔ x ∈ ps := fun x => (mem_compL x l2).trans hpm.mem_iff
    exact ⟨rfl, hm, by show (compL l2).length ≤ _; omega, hbel.1.congr hm, hbel.2.congr hm⟩

theorem owith_ok (po : Nat) (o : OV) (Fo : Nat → Prop) (L : List Pr) (ρ : Fin 64 → Nat) (x y : Fin 64) (w : World) (ho : OdAt Fo w po o) (hk : HOk o L) (hT : Tb w) (hl : L.length ≤ 1000) (hρ : ∀ z ∈ L, ρ z.1 < ρ z.2) (hxy : ρ x < ρ y) (hn : (x, y) ∉ L) : Ok Tryz.prog 81 #[.pointer (some ⟨po, 0, none⟩), .int .i64 (iv x), .int .i64 (iv y)] w fun v w' => OdRes (o.pairs ++ [(x, y)]) (Lt w'.heap.size) v w' ∧ Ext False w w' := by
  replace ho := ho.mono (F' := fun g => g < w.heap.size) (fun g h1 h2 => h1)
  have hoa := ho.at'
  have hol := ho.lt
  have hon := hk.n
  have hle := hk.le
  have hx1 := iv_ge x
  have hy1 := iv_ge y
  have hn2 : (x, y) ∉ o.pairs := fun h => hn ((hk.ps _).1 h)
  have hρ2 : ∀ z ∈ (o.pairs ++ [(x, y)]), ρ z.1 < ρ z.2 := fun z hz => by
    rcases List.mem_append.1 hz with hz | hz
    · exact hρ z ((hk.ps _).1 hz)
    · rw [List.mem_singleton.1 hz]; exact hxy
  refine Ok_of_W 42 Tryz.func81 rfl rfl rfl ?_
  have hX : Ext False w w := Bel.refl _ _
  refine W_seq (W_region ?_)
  refine Rg_run rfl o_assignc ?_
  refine Rg_run rfl o_assignc ?_
  refine Rg_nil (W_seq (W_seq (W_region ?_)))
  refine Rg_run rfl (o_moveh (v := .pointer _) rfl) ?_
  refine Rg_run rfl (o_peq Tryz.underlying142 rfl rfl) ?_
  refine Rg_nil ?_
  refine W_cond_false rfl ?_
  refine W_skip (W_seq (W_seq (W_region ?_)))
  refine Rg_run rfl (o_moveh (v := .pointer _) rfl) ?_
  refine Rg_run rfl (o_moveh (v := .int _ _) rfl) ?_
  refine Rg_enter rfl (o_call2 Tryz.call139 rfl rfl) (Ok.mono (oin_ok _ _ _ _ ho _) ?_)
  rintro _ w1 ⟨rfl, x2⟩
  have z3 := Bel.size x2
  replace hX := Bel.ex hX x2
  replace ho := ho.ext x2
  replace hoa := hoa.ext x2
  replace hT := hT.ext x2
  refine Rg_run rfl (o_not rfl) ?_
  refine Rg_run rfl (o_moveh (v := .bool _) rfl) ?_
  refine Rg_on 4 14 rfl (congrArg Value.bool (by rw [hon]; simp; omega)) ?_
  refine Rg_run rfl (o_moveh (v := .pointer _) rfl) ?_
  refine Rg_on 4 14 rfl (congrArg Value.bool (by rw [hon]; simp; omega)) ?_
  refine Rg_run rfl (o_moveh (v := .int _ _) rfl) ?_
  refine Rg_on 4 14 rfl (congrArg Value.bool (by rw [hon]; simp; omega)) ?_
  refine Rg_enter rfl (o_call2 Tryz.call139 rfl rfl) (Ok.mono (oin_ok _ _ _ _ ho _) ?_)
  rintro _ w4 ⟨rfl, x5⟩
  have z6 := Bel.size x5
  replace hX := Bel.ex hX x5
  replace ho := ho.ext x5
  replace hoa := hoa.ext x5
  replace hT := hT.ext x5
  refine Rg_on 4 14 rfl (congrArg Value.bool (by rw [hon]; simp; omega)) ?_
  refine Rg_run rfl (o_not rfl) ?_
  refine Rg_run rfl (o_pickF (v := .bool _) (congrArg Value.bool (by rw [hon]; simp; omega)) rfl) ?_
  refine Rg_nil ?_
  refine W_cond_false (congrArg Value.bool (by rw [hon]; simp; omega)) ?_
  refine W_skip (W_seq (W_seq (W_region ?_)))
  refine Rg_run rfl (o_moveh (v := .pointer _) rfl) ?_
  refine Rg_run rfl (o_nilc rfl) ?_
  refine Rg_run rfl (o_fa Tryz.underlying201 rfl Tryz.sizeOf66 rfl) ?_
  refine Rg_run rfl (o_load1 Tryz.isAgg66 rfl (hoa.get 1 rfl)) ?_
  refine Rg_run rfl (o_moveh (v := .int _ _) rfl) ?_
  refine Rg_run rfl (o_moveh (v := .int _ _) rfl) ?_
  refine Rg_run rfl (o_build (cells := encPr (x, y)) (vs := [(0, .int _ _), (1, .int _ _)]) rfl (by kernel_rfl)) ?_
  refine Rg_enter rfl (o_call2 Tryz.call140 rfl rfl) (Ok.mono (pcontains_ok _ _ _ _ _ _ ho.pr) ?_)
  rintro _ w7 ⟨rfl, x8⟩
  have z9 := Bel.size x8
  replace hX := Bel.ex hX x8
  replace ho := ho.ext x8
  replace hoa := hoa.ext x8
  replace hT := hT.ext x8
  refine Rg_nil ?_
  refine W_cond_false (congrArg Value.bool (List.any_eq_false.2 (fun z hz h => hn2 (by rw [eq_of_beq h]; exact hz)))) ?_
  refine W_skip (W_seq ?_)
  apply W_drawC (β := False) (fun _ => 0) [peqC _, peqC _, peqC _, peqC _, peqC _, (postOwn encPr 2 127 1 o.pairs), peqC _, peqC _, peqC _, (fun v w c => ∃ a, v = .slice a 1 1 ∧ postOwn encPr 2 127 0 [(x, y)] v w c), (postOwn encPr 2 127 1 (o.pairs ++ [(x, y)])), (postW (OdRes (o.pairs ++ [(x, y)]))), (postW (OdPtr (o.pairs ++ [(x, y)]))), peqC _] [0, 0, 0, 0, 0, 1, 0, 0, 0, 0, 1, 0, 0, 0] 14 mixed (by kernel_rfl) (by kernel_rfl) rfl ⟨peqC_stable _ _, peqC_stable _ _, peqC_stable _ _, peqC_stable _ _, peqC_stable _ _, (postOwn_stable), peqC_stable _ _, peqC_stable _ _, peqC_stable _ _, (postBs_stable), (postOwn_stable), (postW_stable (OdRes.keepS _)), (postW_stable (OdPtr.keepS _)), peqC_stable _ _, trivial⟩ ?ob7 ?fin7
  case ob7 =>
    refine OblC_cons (fun w10 c12 x11 hc013 hk14 => ?_) ?_
    · skip
      replace x11 := RelG.ext0 x11
      have z15 := Bel.size x11
      refine bindC_nil ?_
      exact OpC_v rfl (o_moveh (v := .pointer _) rfl)
    refine OblC_cons (fun w16 c18 x17 hc019 hk20 => ?_) ?_
    · skip
      replace x17 := RelG.ext0 x17
      have z21 := Bel.size x17
      refine bindC_eq (bindC_nil ?_)
      exact OpC_v rfl (o_nilc rfl)
    refine OblC_cons (fun w22 c24 x23 hc025 hk26 => ?_) ?_
    · skip
      replace x23 := RelG.ext0 x23
      have z27 := Bel.size x23
      refine bindC_eq (bindC_nil ?_)
      exact OpC_v rfl (o_fa Tryz.underlying201 rfl Tryz.sizeOf3 rfl)
    refine OblC_cons (fun w28 c30 x29 hc031 hk32 => ?_) ?_
    · skip
      replace x29 := RelG.ext0 x29
      have z33 := Bel.size x29
      have hoa := hoa.ext x29
      refine bindC_eq (bindC_nil ?_)
      exact OpC_v rfl (o_load1 Tryz.isAgg3 rfl (hoa.get 0 rfl))
    refine OblC_cons (fun w34 c36 x35 hc037 hk38 => ?_) ?_
    · skip
      replace x35 := RelG.ext0 x35
      have z39 := Bel.size x35
      refine bindC_nil ?_
      exact OpC_v rfl (o_moveh (v := .pointer _) rfl)
    refine OblC_cons (fun w40 c42 x41 hc043 hk44 => ?_) ?_
    · skip
      replace x41 := RelG.ext0 x41
      have z45 := Bel.size x41
      have ho := ho.ext x41
      refine bindC_eq (bindC_nil ?_)
      exact OpC_own rfl (o_call1 Tryz.call141 rfl) (opairs_ok _ _ _ _ ho (by omega))
    refine OblC_cons (fun w46 c48 x47 hc049 hk50 => ?_) ?_
    · skip
      replace x47 := RelG.ext0 x47
      have z51 := Bel.size x47
      refine bindC_nil ?_
      exact OpC_v rfl (o_moveh (v := .int _ _) rfl)
    refine OblC_cons (fun w52 c54 x53 hc055 hk56 => ?_) ?_
    · skip
      replace x53 := RelG.ext0 x53
      have z57 := Bel.size x53
      refine bindC_nil ?_
      exact OpC_v rfl (o_moveh (v := .int _ _) rfl)
    refine OblC_cons (fun w58 c60 x59 hc061 hk62 => ?_) ?_
    · skip
      replace x59 := RelG.ext0 x59
      have z63 := Bel.size x59
      refine bindC_eq (bindC_eq (bindC_nil ?_))
      exact OpC_v rfl (o_build (cells := encPr (x, y)) (vs := [(0, .int _ _), (1, .int _ _)]) rfl (by kernel_rfl))
    refine OblC_cons (fun w64 c66 x65 hc067 hk68 => ?_) ?_
    · skip
      replace x65 := RelG.ext0 x65
      have z69 := Bel.size x65
      refine bindC_eq (bindC_nil ?_)
      exact OpC_bs (vs := [.agg _]) [(x, y)] encPr_ok el_pr rfl rfl ⟨rfl, trivial⟩ rfl rfl rfl rfl
    refine OblC_cons (fun w70 c72 x71 hc073 hk74 => ?_) ?_
    · skip
      replace x71 := RelG.ext0 x71
      have z75 := Bel.size x71
      refine bindC_mem (fun v33 hv33 => ?_)
      refine bindC_mem (fun v37 hv37 => ?_)
      refine bindC_mem (fun v33 hv33 => ?_)
      refine bindC_nil ?_
      obtain ⟨a37, rfl, ho37⟩ := hv37
      exact OpC_app (by decide) encPr_ok el_pr rfl rfl hv33 (Own.slA ho37 encPr_ok) rfl (by simp; omega)
    refine OblC_cons (fun w76 c78 x77 hc079 hk80 => ?_) ?_
    · skip
      replace x77 := RelG.ext0 x77
      have z81 := Bel.size x77
      have hT := hT.ext x77
      refine bindC_eq ?_
      refine bindC_mem (fun v38 hv38 => ?_)
      refine bindC_mem (fun v38 hv38 => ?_)
      refine bindC_nil ?_
      exact OpC_W rfl (o_call2 Tryz.call79 rfl rfl) (onew_ok _ _ _ (o.pairs ++ [(x, y)]) ρ _ (Own.rd hv38 encPr_ok) hT hon (by simp; omega) hρ2)
    refine OblC_cons (fun w82 c84 x83 hc085 hk86 => ?_) ?_
    · skip
      replace x83 := RelG.ext0 x83
      have z87 := Bel.size x83
      refine bindC_mem (fun v39 hv39 => ?_)
      obtain ⟨F39, hF39, p39, o39, rfl, ho39, hk39⟩ := hv39
      refine bindC_nil ?_
      exact OpC_vp rfl (o_extract rfl rfl) ⟨F39, hF39, p39, o39, rfl, ho39, hk39⟩
    refine OblC_cons (fun w88 c90 x89 hc091 hk92 => ?_) ?_
    · skip
      replace x89 := RelG.ext0 x89
      have z93 := Bel.size x89
      refine bindC_mem (fun v39 hv39 => ?_)
      obtain ⟨F39, hF39, p39, o39, rfl, ho39, hk39⟩ := hv39
      refine bindC_nil ?_
      exact OpC_v rfl (o_extract rfl rfl)
    exact OblC_nil
  case fin7 =>
    intro w94 c96 x95 hc097
    replace x95 := RelG.ext0 x95
    have z98 := Bel.size x95
    replace hX := Bel.ex hX x95
    refine bindC_eq (bindC_eq (bindC_eq (bindC_eq (bindC_eq ?_))))
    refine bindC_mem (fun v33 _ => ?_)
    refine bindC_eq (bindC_eq (bindC_eq ?_))
    refine bindC_mem (fun v37 hv37 => ?_)
    refine bindC_mem (fun v38 hv38 => ?_)
    refine bindC_mem (fun v39 hv39 => ?_)
    obtain ⟨F39, hF39, p39, o39, rfl, ho39, hk39⟩ := hv39
    refine bindC_mem (fun v40 hv40 => ?_)
    refine bindC_eq (bindC_nil ?_)
    obtain ⟨F40, hF40, p40, o40, rfl, ho40, hk40⟩ := hv40
    refine Rg_run rfl (o_assignh (v := .pointer _) rfl) ?_
    refine Rg_run rfl (o_assignh (v := .int _ _) rfl) ?_
    refine Rg_nil (W_ret ?_)
    refine ⟨_, res_tmp2 rfl rfl rfl, ?_⟩
    exact ⟨⟨p40, o40, rfl, ho40.mono (fun g h1 h2 => h1), hk40⟩, hX⟩

theorem hnew_ok (w : World) (hT : Tb w) : Ok Tryz.prog 31 #[] w fun v w' => HyIs w' v [] ∧ Ext False w w' := by
  refine Ok_of_W 10 Tryz.func31 rfl rfl rfl ?_
  have hX : Ext False w w := Bel.refl _ _
  refine W_seq (W_region ?_)
  refine Rg_run rfl o_assignc ?_
  refine Rg_nil (W_seq (W_region ?_))
  refine Rg_enter rfl (o_call2 Tryz.call79 rfl rfl) (Ok.mono (onew_ok 64 _ (fun _ => True) [] (fun _ => 0) _ Rd.none hT rfl (by simp) (by simp)) ?_)
  rintro _ w1 ⟨⟨p4, o4, rfl, ho4, hk4⟩, x2⟩
  have z3 := Bel.size x2
  replace hX := Bel.ex hX x2
  refine Rg_run rfl (o_moveh (v := .tuple _) rfl) ?_
  refine Rg_run rfl (o_extract rfl rfl) ?_
  refine Rg_run rfl (o_extract rfl rfl) ?_
  refine Rg_run rfl (o_assignh (v := .pointer _) rfl) ?_
  refine Rg_run rfl (o_assignh (v := .int _ _) rfl) ?_
  refine Rg_nil (W_seq (W_region ?_))
  refine Rg_run rfl (o_moveh (v := .pointer _) rfl) ?_
  refine Rg_run rfl (o_build (cells := [.pointer (some ⟨p4, 0, none⟩)]) (vs := [(0, .pointer _)]) rfl (by kernel_rfl)) ?_
  refine Rg_newB rfl (o_box (v := .agg _) rfl) ?_
  intro b9 w4 x5 hge9 hb9
  have hlt9 := hb9.lt
  have z6 := Bel.size x5
  replace hX := Bel.ex hX x5
  replace ho4 := ho4.ext x5
  refine Rg_run rfl (o_assignh (v := .pointer _) rfl) ?_
  refine Rg_nil (W_ret ?_)
  refine ⟨_, res_tmp rfl rfl, ?_⟩
  change Box _ _ _ [.pointer (some ⟨p4, 0, none⟩)] at hb9
  exact ⟨⟨b9, p4, o4, rfl, hb9.at, ho4.mono (fun g h1 h2 => h1), hk4⟩, hX⟩

theorem hlinkP_ok (ph po : Nat) (o : OV) (L : List Pr) (ρ : Fin 64 → Nat) (x y : Fin 64) (w : World) (hha : At w ph 0 [.pointer (some ⟨po, 0, none⟩)]) (ho : OdAt (Lt w.heap.size) w po o) (hk : HOk o L) (hT : Tb w) (hl : L.length ≤ 1000) (hρ : ∀ z ∈ L, ρ z.1 < ρ z.2) (hxy : ρ x < ρ y) (hn : (x, y) ∉ L) (hp1 : 1 ≤ x.val) (hp2 : 1 ≤ y.val) : Ok Tryz.prog 32 #[.pointer (some ⟨ph, 0, none⟩), .int .i64 (iv x), .int .i64 (iv y)] w fun v w' => HyRes (L ++ [(x, y)]) v w' ∧ Ext False w w' := by
  have hx1 : 1 ≤ iv x ∧ iv x < 64 := by unfold iv; have := x.isLt; omega
  have hy1 : 1 ≤ iv y ∧ iv y < 64 := by unfold iv; have := y.isLt; omega
  have hne : x ≠ y := fun e => by rw [e] at hxy; exact Nat.lt_irrefl _ hxy
  have hl1 := hha.lt; have hl2 := ho.lt
  refine Ok_of_W 43 Tryz.func32 rfl rfl rfl ?_
  have hX : Ext False w w := Bel.refl _ _
  refine W_seq (W_region ?_)
  refine Rg_run rfl o_assignc ?_
  refine Rg_run rfl o_assignc ?_
  refine Rg_nil (W_seq (W_seq (W_region ?_)))
  refine Rg_run rfl (o_moveh (v := .pointer _) rfl) ?_
  refine Rg_run rfl (o_peq Tryz.underlying65 rfl rfl) ?_
  refine Rg_run rfl (o_moveh (v := .bool _) rfl) ?_
  refine Rg_on 2 12 rfl rfl ?_
  refine Rg_run rfl (o_moveh (v := .int _ _) rfl) ?_
  refine Rg_on 2 12 rfl rfl ?_
  refine Rg_enter rfl (o_call1 Tryz.call80 rfl) (Ok.mono (hrole_ok _ _) ?_)
  rintro _ w1 ⟨rfl, x2⟩
  have z3 := Bel.size x2
  replace hX := Bel.ex hX x2
  replace hha := hha.ext x2
  replace ho := ho.ext x2
  replace hT := hT.ext x2
  refine Rg_on 2 12 rfl rfl ?_
  refine Rg_run rfl (o_not rfl) ?_
  refine Rg_run rfl (o_pickF (v := .bool _) rfl rfl) ?_
  refine Rg_run rfl (o_moveh (v := .bool _) rfl) ?_
  refine Rg_on 7 17 rfl (congrArg Value.bool (by simp; omega)) ?_
  refine Rg_run rfl (o_moveh (v := .int _ _) rfl) ?_
  refine Rg_on 7 17 rfl (congrArg Value.bool (by simp; omega)) ?_
  refine Rg_enter rfl (o_call1 Tryz.call80 rfl) (Ok.mono (hrole_ok _ _) ?_)
  rintro _ w4 ⟨rfl, x5⟩
  have z6 := Bel.size x5
  replace hX := Bel.ex hX x5
  replace hha := hha.ext x5
  replace ho := ho.ext x5
  replace hT := hT.ext x5
  refine Rg_on 7 17 rfl (congrArg Value.bool (by simp; omega)) ?_
  refine Rg_run rfl (o_not rfl) ?_
  refine Rg_run rfl (o_pickF (v := .bool _) (congrArg Value.bool (by simp; omega)) rfl) ?_
  refine Rg_run rfl (o_moveh (v := .bool _) rfl) ?_
  refine Rg_on 12 22 rfl (congrArg Value.bool (by simp; omega)) ?_
  refine Rg_run rfl (o_moveh (v := .int _ _) rfl) ?_
  refine Rg_on 12 22 rfl (congrArg Value.bool (by simp; omega)) ?_
  refine Rg_run rfl (o_moveh (v := .int _ _) rfl) ?_
  refine Rg_on 12 22 rfl (congrArg Value.bool (by simp; omega)) ?_
  refine Rg_run rfl (o_eql rfl rfl) ?_
  refine Rg_run rfl (o_pickF (v := .bool _) (congrArg Value.bool (by simp; omega)) rfl) ?_
  refine Rg_nil ?_
  refine W_cond_false (congrArg Value.bool (by rw [iv_beq]; simpa using hne)) ?_
  refine W_skip (W_seq (W_region ?_))
  refine Rg_run rfl (o_moveh (v := .pointer _) rfl) ?_
  refine Rg_run rfl (o_nilc rfl) ?_
  refine Rg_run rfl (o_fa Tryz.underlying146 rfl Tryz.sizeOf142 rfl) ?_
  refine Rg_run rfl (o_load1 Tryz.isAgg142 rfl (hha.get 0 rfl)) ?_
  refine Rg_run rfl (o_moveh (v := .int _ _) rfl) ?_
  refine Rg_run rfl (o_moveh (v := .int _ _) rfl) ?_
  refine Rg_enter rfl (o_call3 Tryz.call81 rfl rfl rfl) (Ok.mono (owith_ok po o _ L ρ x y _ ho hk hT hl hρ hxy hn) ?_)
  rintro _ w7 ⟨⟨p34, o34, rfl, ho34, hk34⟩, x8⟩
  have z9 := Bel.size x8
  replace hX := Bel.ex hX x8
  refine Rg_run rfl (o_moveh (v := .tuple _) rfl) ?_
  refine Rg_run rfl (o_extract rfl rfl) ?_
  refine Rg_run rfl (o_extract rfl rfl) ?_
  refine Rg_run rfl (o_assignh (v := .pointer _) rfl) ?_
  refine Rg_run rfl (o_assignh (v := .int _ _) rfl) ?_
  refine Rg_nil (W_seq (W_seq (W_region ?_)))
  refine Rg_run rfl (o_moveh (v := .int _ _) rfl) ?_
  refine Rg_run rfl (o_neq rfl rfl) ?_
  refine Rg_nil ?_
  refine W_cond_false rfl ?_
  refine W_skip (W_seq (W_region ?_))
  refine Rg_run rfl (o_moveh (v := .pointer _) rfl) ?_
  refine Rg_run rfl (o_build (cells := [.pointer (some ⟨p34, 0, none⟩)]) (vs := [(0, .pointer _)]) rfl (by kernel_rfl)) ?_
  refine Rg_newB rfl (o_box (v := .agg _) rfl) ?_
  intro b42 w10 x11 hge42 hb42
  have hlt42 := hb42.lt
  have z12 := Bel.size x11
  replace hX := Bel.ex hX x11
  replace ho34 := ho34.ext x11
  refine Rg_run rfl (o_assignh (v := .pointer _) rfl) ?_
  refine Rg_run rfl o_assignc ?_
  refine Rg_nil (W_ret ?_)
  refine ⟨_, res_tmp2 rfl rfl rfl, ?_⟩
  change Box _ _ _ [.pointer (some ⟨p34, 0, none⟩)] at hb42
  exact ⟨⟨_, rfl, b42, p34, o34, rfl, hb42.at, ho34.mono (fun g h1 h2 => h1), hk34.congr (fun z => by simp [hk.ps]) (by have := hk.le; simp; omega)⟩, hX⟩

theorem hlink_ok (v : Value) (L : List Pr) (ρ : Fin 64 → Nat) (x y : Fin 64) (w : World) (hh : HyIs w v L) (hT : Tb w) (hl : L.length ≤ 1000) (hρ : ∀ z ∈ L, ρ z.1 < ρ z.2) (hxy : ρ x < ρ y) (hn : (x, y) ∉ L) (hp1 : 1 ≤ x.val) (hp2 : 1 ≤ y.val) :
    Ok Tryz.prog 32 #[v, .int .i64 (iv x), .int .i64 (iv y)] w fun v w' => HyRes (L ++ [(x, y)]) v w' ∧ Ext False w w' := by
  obtain ⟨ph, po, o, rfl, h1, h2, h3⟩ := hh
  exact hlinkP_ok ph po o L ρ x y w h1 h2 h3 hT hl hρ hxy hn hp1 hp2
end Go.Proofs.YtncmjgmlnnenhaaGreatDoor
