/- Walks, printed by program: each theorem says what a function of the translation returns. -/
import Derived.Test.YtnhbdlllkmnpfaaDoorWpath3
import Derived.Test.YtnhbdlllkmnpfaaDoorSet
import Derived.Test.YtnhbdlllkmnpfaaDoorTreeX
import Derived.Test.YtnhbdlllkmnpfaaDoorSortS
namespace Go.Proofs.YtnhbdlllkmnpfaaDoor
open Go Go.Lx Go.RowKit
set_option maxRecDepth 100000
set_option linter.unusedVariables false
set_option linter.unusedSimpArgs false
set_option linter.unnecessarySimpa false
theorem mclone_ok (m : Nat) (l : List Str) (w : World) (hm : Ms w m l) : Ok Tryd.prog 68 #[.map (some m)] w fun v w' => ∃ m', v = .map (some m') ∧ w.heap.size ≤ m' ∧ m' < w'.heap.size ∧ Ms w' m' l ∧ Ext False w w' := by
  refine Ok_of_W 9 Tryd.func68 rfl rfl rfl ?_
  have hX : Ext False w w := Bel.refl _ _
  refine W_seq ?_
  refine W_region ?_
  refine Rg_run rfl o_assignc ?_
  refine Rg_nil ?_
  refine W_seq ?_
  refine W_seq ?_
  refine W_region ?_
  refine Rg_run rfl (o_moveh (v := .map _) rfl) ?_
  refine Rg_run rfl (o_meqnil Tryd.underlying79 rfl rfl) ?_
  refine Rg_nil ?_
  refine W_cond_false rfl ?_
  refine W_skip ?_
  refine W_seq ?_
  refine W_region ?_
  refine Rg_run rfl (o_moveh (v := .map _) rfl) ?_
  refine Rg_run rfl (o_mkif Tryd.underlying79 rfl rfl) ?_
  refine Rg_sclone rfl x_clone rfl hm ?_
  intro m7 w1 x2 hge7 hlt7 hm7
  have z3 := Bel.size x2
  replace hX := Bel.ex hX x2
  replace hm := hm.ext x2
  refine Rg_run rfl (o_tassert Tryd.underlying79 rfl rfl) ?_
  refine Rg_run rfl (o_assignh (v := .map _) rfl) ?_
  refine Rg_nil ?_
  refine W_ret ?_
  refine ⟨_, res_tmp rfl rfl, ?_⟩
  exact ⟨_, rfl, by omega, by omega, hm7, hX⟩

theorem tnew_ok (w : World) : Ok Tryd.prog 46 #[] w fun v w' => ∃ b m, v = .pointer (some ⟨b, 0, none⟩) ∧ w.heap.size ≤ b ∧ b < w'.heap.size ∧ w.heap.size ≤ m ∧ m < w'.heap.size ∧ b ≠ m ∧ At w' b 0 [.map (some m)] ∧ Ms w' m ([[47]]) ∧ Ext False w w' := by
  refine Ok_of_W 5 Tryd.func46 rfl rfl rfl ?_
  have hX : Ext False w w := Bel.refl _ _
  refine W_seq ?_
  refine W_region ?_
  refine Rg_run rfl o_assignc ?_
  refine Rg_nil ?_
  refine W_seq ?_
  refine W_region ?_
  refine Rg_smk rfl ?_
  intro m1 w1 x2 hge1 hlt1 hm1
  have z3 := Bel.size x2
  replace hX := Bel.ex hX x2
  refine Rg_sins rfl Tryd.underlying79 Tryd.underlying9 rfl rfl rfl hm1 ?_
  intro w4 x5 hm1
  have z6 := Bel.size x5
  replace hX := Bel.out hX x5 (fun g h1 h2 => by first | exact h2 | omega)
  refine Rg_run rfl (o_moveh (v := .map _) rfl) ?_
  refine Rg_run rfl (o_build (cells := [.map (some m1)]) (vs := [(0, .map _)]) rfl (by kernel_rfl)) ?_
  refine Rg_newB rfl (o_box (v := .agg _) rfl) ?_
  intro b4 w7 x8 hge4 hb4
  have hlt4 := hb4.lt
  have z9 := Bel.size x8
  replace hX := Bel.ex hX x8
  replace hm1 := hm1.ext x8
  refine Rg_run rfl (o_assignh (v := .pointer _) rfl) ?_
  refine Rg_nil ?_
  refine W_ret ?_
  refine ⟨_, res_tmp rfl rfl, ?_⟩
  exact ⟨_, _, rfl, by omega, by omega, by omega, by omega, by omega, hb4.at, hm1, hX⟩

theorem thas_ok (w : World) (bt mt : Nat) (t : List Str) (hbt : At w bt 0 [.map (some mt)]) (hmt : Ms w mt t) (p : Str) : Ok Tryd.prog 36 #[.pointer (some ⟨bt, 0, none⟩), str p] w fun v w' => v = .bool (t.any fun q => p == q) ∧ Ext False w w' := by
  have hlbt := hbt.lt; have hlmt := hmt.lt
  refine Ok_of_W 15 Tryd.func36 rfl rfl rfl ?_
  have hX : Ext False w w := Bel.refl _ _
  refine W_seq ?_
  refine W_region ?_
  refine Rg_run rfl o_assignc ?_
  refine Rg_nil ?_
  refine W_seq ?_
  refine W_region ?_
  refine Rg_run rfl (o_moveh (v := .pointer _) rfl) ?_
  refine Rg_run rfl (o_pne Tryd.underlying42 rfl rfl) ?_
  refine Rg_run rfl (o_moveh (v := .bool _) rfl) ?_
  refine Rg_may 2 7 rfl rfl rfl (fun hg => (o_moveh (v := .pointer _) rfl)) ?_
  refine Rg_may 2 7 rfl rfl rfl (fun hg => (o_nilc (gsel (u := undef) hg))) ?_
  refine Rg_may 2 7 rfl rfl rfl (fun hg => (o_fa Tryd.underlying81 rfl Tryd.sizeOf79 (gsel (u := undef) hg))) ?_
  refine Rg_may 2 7 rfl rfl rfl (fun hg => (o_load1 Tryd.isAgg79 (gsel (u := undef) hg) (hbt.get 0 rfl))) ?_
  refine Rg_may 2 7 rfl rfl rfl (fun hg => (o_moveh (v := str _) rfl)) ?_
  refine Rg_may 2 7 rfl rfl rfl (fun hg => (o_slook Tryd.underlying79 Tryd.underlying9 Tryd.zeroValue4 hmt (gsel (u := undef) hg) (gsel (u := undef) hg))) ?_
  refine Rg_run rfl (o_and (u := undef) rfl rfl) ?_
  refine Rg_run rfl (o_assignh (v := .bool _) rfl) ?_
  refine Rg_nil ?_
  refine W_ret ?_
  refine ⟨_, res_tmp rfl rfl, ?_⟩
  refine ⟨congrArg Value.bool ?_, hX⟩
  all_goals (simp)

theorem tlen_ok (w : World) (bt mt : Nat) (t : List Str) (hbt : At w bt 0 [.map (some mt)]) (hmt : Ms w mt t) : Ok Tryd.prog 33 #[.pointer (some ⟨bt, 0, none⟩)] w fun v w' => v = .int .i64 ((t.length : Int)) ∧ Ext False w w' := by
  have hlbt := hbt.lt; have hlmt := hmt.lt
  refine Ok_of_W 10 Tryd.func33 rfl rfl rfl ?_
  have hX : Ext False w w := Bel.refl _ _
  refine W_seq ?_
  refine W_region ?_
  refine Rg_run rfl o_assignc ?_
  refine Rg_nil ?_
  refine W_seq ?_
  refine W_seq ?_
  refine W_region ?_
  refine Rg_run rfl (o_moveh (v := .pointer _) rfl) ?_
  refine Rg_run rfl (o_peq Tryd.underlying42 rfl rfl) ?_
  refine Rg_nil ?_
  refine W_cond_false rfl ?_
  refine W_skip ?_
  refine W_seq ?_
  refine W_region ?_
  refine Rg_run rfl (o_moveh (v := .pointer _) rfl) ?_
  refine Rg_run rfl (o_nilc rfl) ?_
  refine Rg_run rfl (o_fa Tryd.underlying81 rfl Tryd.sizeOf79 rfl) ?_
  refine Rg_run rfl (o_load1 Tryd.isAgg79 rfl (hbt.get 0 rfl)) ?_
  refine Rg_run rfl (o_slen7 Tryd.underlying79 hmt rfl) ?_
  refine Rg_run rfl (o_assignh (v := .int _ _) rfl) ?_
  refine Rg_nil ?_
  refine W_ret ?_
  refine ⟨_, res_tmp rfl rfl, ?_⟩
  refine ⟨congrArg (Value.int .i64) ?_, hX⟩
  all_goals (rfl)

theorem tadd_ok (w : World) (bt mt : Nat) (t : List Str) (hbt : At w bt 0 [.map (some mt)]) (hmt : Ms w mt t) (p : Str) (hp : p.length ≤ 1000000) (hv : splitOk p = true) : Ok Tryd.prog 43 #[.pointer (some ⟨bt, 0, none⟩), str p] w fun v w' => ∃ b m, v = .tuple #[.pointer (some ⟨b, 0, none⟩), .int .i64 0] ∧ w.heap.size ≤ b ∧ b < w'.heap.size ∧ w.heap.size ≤ m ∧ m < w'.heap.size ∧ b ≠ m ∧ At w' b 0 [.map (some m)] ∧ Ms w' m (addT t p) ∧ Ext False w w' := by
  have hlbt := hbt.lt; have hlmt := hmt.lt
  have hal := ancS_len p; have h8 := splitL_len p
  refine Ok_of_W 34 Tryd.func43 rfl rfl rfl ?_
  have hX : Ext False w w := Bel.refl _ _
  refine W_seq ?_
  refine W_region ?_
  refine Rg_run rfl o_assignc ?_
  refine Rg_run rfl o_assignc ?_
  refine Rg_nil ?_
  refine W_seq ?_
  refine W_seq ?_
  refine W_region ?_
  refine Rg_run rfl (o_moveh (v := .pointer _) rfl) ?_
  refine Rg_run rfl (o_peq Tryd.underlying42 rfl rfl) ?_
  refine Rg_nil ?_
  refine W_cond_false rfl ?_
  refine W_skip ?_
  refine W_seq ?_
  refine W_seq ?_
  refine W_region ?_
  refine Rg_run rfl (o_moveh (v := str _) rfl) ?_
  refine Rg_enter rfl (o_call1 Tryd.call26 rfl) (Ok.mono (pvalid_ok (False) _ (by first | assumption | omega | (simp; done) | (simp; omega) | (simp at *; omega)) _) ?_)
  rintro _ w1 ⟨rfl, x2⟩
  have z3 := Bel.size x2
  replace hX := Bel.ex hX x2
  replace hbt := hbt.ext x2
  replace hmt := hmt.ext x2
  refine Rg_run rfl (o_not rfl) ?_
  refine Rg_nil ?_
  refine W_cond_false (congrArg Value.bool (by rw [hv]; rfl)) ?_
  refine W_skip ?_
  refine W_seq ?_
  refine W_region ?_
  refine Rg_run rfl (o_moveh (v := .pointer _) rfl) ?_
  refine Rg_run rfl (o_nilc rfl) ?_
  refine Rg_run rfl (o_fa Tryd.underlying81 rfl Tryd.sizeOf79 rfl) ?_
  refine Rg_run rfl (o_load1 Tryd.isAgg79 rfl (hbt.get 0 rfl)) ?_
  refine Rg_enter rfl (o_call1 Tryd.call68 rfl) (Ok.mono (mclone_ok _ _ _ hmt) ?_)
  rintro _ w4 ⟨m18, rfl, hge18, hlt18, hm18, x5⟩
  have z6 := Bel.size x5
  replace hX := Bel.ex hX x5
  replace hbt := hbt.ext x5
  replace hmt := hmt.ext x5
  refine Rg_run rfl (o_assignh (v := .map _) rfl) ?_
  refine Rg_nil ?_
  refine W_seq ?_
  refine W_region ?_
  refine Rg_run rfl (o_moveh (v := .map _) rfl) ?_
  refine Rg_run rfl (o_moveh (v := str _) rfl) ?_
  refine Rg_sput rfl Tryd.underlying79 Tryd.underlying9 rfl rfl rfl hm18 ?_
  intro w7 x8 hm18
  have z9 := Bel.size x8
  replace hX := Bel.out hX x8 (fun g h1 h2 => by first | exact h2 | omega)
  replace hbt := hbt.keep x8 (fun h => by omega)
  replace hmt := hmt.keep x8 (fun h => by omega)
  refine Rg_nil ?_
  refine W_seq ?_
  refine W_seq ?_
  refine W_region ?_
  refine Rg_run rfl (o_moveh (v := str _) rfl) ?_
  refine Rg_enter rfl (o_call1 Tryd.call30 rfl) (Ok.mono (panc_ok _ _ (by first | assumption | omega | (simp; done) | (simp; omega) | (simp at *; omega))) ?_)
  rintro v22 w10 ⟨hown22, x11⟩
  have z12 := Bel.size x11
  replace hX := Bel.ex hX x11
  replace hbt := hbt.ext x11
  replace hmt := hmt.ext x11
  replace hm18 := hm18.ext x11
  obtain ⟨a22, c22, hv22, hs22⟩ := hown22.sl encS_ok; subst hv22
  refine Rg_run rfl (o_llen Tryd.underlying35 rfl) ?_
  refine Rg_run rfl o_movec ?_
  refine Rg_nil ?_
  refine W_block ?_
  refine W_for (α := Nat) [(8, 8), (24, 30)] (fun k => [(24, .int .i64 (k : Int))]) (fun k w' => (k ≤ (ancS p).length) ∧ Bel False (fun g => g = m18) w10 w' ∧ (Ms w' m18 (((ancS p).take k).foldl insS (insS t p)))) (fun k => (ancS p).length - k) 0 ⟨rfl, trivial⟩ ⟨Nat.zero_le _, Bel.refl _ _, hm18⟩ ?_
  rintro k fb15 w14 ⟨hk, hXL13, hm18⟩
  have z16 := Bel.size hXL13
  replace hX := Bel.out hX hXL13 (fun g h1 h2 => by first | exact h2 | omega)
  replace hbt := hbt.keep hXL13 (fun h => by omega)
  replace hmt := hmt.keep hXL13 (fun h => by omega)
  replace hs22 := hs22.keep hXL13 (fun g h1 h2 h3 => by omega)
  refine W_seq ?_
  refine W_region ?_
  refine Rg_run rfl (o_lss rfl rfl) ?_
  refine Rg_nil ?_
  refine W_seq ?_
  refine W_cond rfl (fun hc3 => ?_) (fun hc3 => ?_)
  · skip
    replace hc3 := of_decide_eq_true hc3
    refine W_skip ?_
    refine W_seq ?_
    refine W_block ?_
    refine W_seq ?_
    refine W_region ?_
    refine Rg_run rfl (o_iaR Tryd.underlying35 Tryd.sizeOf9 hs22 rfl rfl (by first | omega | (unfold I64; omega) | (simp; done) | (simp; omega) | (simp at *; omega))) ?_
    refine Rg_run rfl (o_ldR Tryd.isAgg9 hs22 rfl rfl (getE [] (by omega)) rfl) ?_
    refine Rg_run rfl (o_assignh (v := str _) rfl) ?_
    refine Rg_nil ?_
    refine W_region ?_
    refine Rg_run rfl (o_moveh (v := .map _) rfl) ?_
    refine Rg_run rfl (o_moveh (v := str _) rfl) ?_
    refine Rg_sput rfl Tryd.underlying79 Tryd.underlying9 rfl rfl rfl hm18 ?_
    intro w17 x18 hm18
    have z19 := Bel.size x18
    replace hX := Bel.out hX x18 (fun g h1 h2 => by first | exact h2 | omega)
    replace hXL13 := Bel.out hXL13 x18 (fun g h1 h2 => by first | exact h2 | omega)
    replace hbt := hbt.keep x18 (fun h => by omega)
    replace hmt := hmt.keep x18 (fun h => by omega)
    replace hs22 := hs22.keep x18 (fun g h1 h2 h3 => by omega)
    refine Rg_nil ?_
    refine W_region ?_
    refine Rg_run rfl (o_add rfl rfl (by first | omega | (unfold I64; omega) | (simp; done) | (simp; omega) | (simp at *; omega))) ?_
    refine Rg_run rfl (o_moveh (v := .int _ _) rfl) ?_
    refine Rg_nil ?_
    refine ⟨k + 1, ⟨?_, trivial⟩, ?_, ⟨?_, hXL13, ?_⟩, ?_⟩
    · first | rfl | (go_num) | (exact congrArg _ (by omega))
    · repeat (first | exact off_refl _ _ | exact off_mix | refine off_put rfl ?_ | refine off_putN ?_ | refine off_setL rfl ?_ | refine off_mix' rfl ?_)
    · show k + 1 ≤ (ancS p).length; omega
    · show Ms _ _ (((ancS p).take (k + 1)).foldl insS _); rw [foldS_succ (by omega)]; exact hm18
    · omega
  · skip
    replace hc3 := of_decide_eq_false hc3
    refine W_exit ?_
    refine exAt_hit ?_
    refine W_seq ?_
    refine W_region ?_
    refine Rg_run rfl (o_moveh (v := .map _) rfl) ?_
    refine Rg_run rfl (o_build (cells := [.map (some m18)]) (vs := [(0, .map _)]) rfl (by kernel_rfl)) ?_
    refine Rg_newB rfl (o_box (v := .agg _) rfl) ?_
    intro b33 w20 x21 hge33 hb33
    have hlt33 := hb33.lt
    have z22 := Bel.size x21
    replace hX := Bel.ex hX x21
    replace hbt := hbt.ext x21
    replace hmt := hmt.ext x21
    replace hs22 := hs22.ext x21
    replace hm18 := hm18.ext x21
    refine Rg_run rfl (o_assignh (v := .pointer _) rfl) ?_
    refine Rg_run rfl o_assignc ?_
    refine Rg_nil ?_
    refine W_ret ?_
    refine ⟨_, res_tmp2 rfl rfl rfl, ?_⟩
    rw [List.take_of_length_le (by omega)] at hm18
    exact ⟨_, _, rfl, by omega, by omega, by omega, by omega, by omega, hb33.at, hm18, hX⟩

theorem twhich_ok (b m : Nat) (t : List Str) (fid : FuncId) (cs : Array Value) (q : Str → Bool) (w : World) (hb : At w b 0 [.map (some m)]) (hm : Ms w m t) (hn : t.length ≤ 1000000) (hok : ∀ x ∈ t, splitOk x = true ∧ x.length ≤ 1000000) (hent : ∀ args w, (callFunc fid args).run Tryd.prog w = .ok (.enter fid args) w) (hq : ∀ x ∈ t, ∀ w', Ext False w w' → Ok Tryd.prog fid (#[str x] ++ cs) w' fun v w'' => v = .bool (q x) ∧ Ext False w' w'') : Ok Tryd.prog 64 #[.pointer (some ⟨b, 0, none⟩), .func (.func fid) #[] cs] w fun v w' => ∃ r : List Str, Srt r (t.filter q) ∧ Own encS 1 9 (Fsh w w') w' v r ∧ Ext False w w' := by
  have hlb := hb.lt; have hlm := hm.lt
  refine Ok_of_W 26 Tryd.func64 rfl rfl rfl ?_
  have hX : Ext False w w := Bel.refl _ _
  refine W_seq ?_
  refine W_region ?_
  refine Rg_run rfl o_assignc ?_
  refine Rg_nil ?_
  refine W_seq ?_
  refine W_region ?_
  refine Rg_run rfl o_assignc ?_
  refine Rg_nil ?_
  refine W_seq ?_
  refine W_seq ?_
  refine W_region ?_
  refine Rg_run rfl (o_moveh (v := .pointer _) rfl) ?_
  refine Rg_run rfl (o_nilc rfl) ?_
  refine Rg_run rfl (o_fa Tryd.underlying81 rfl Tryd.sizeOf79 rfl) ?_
  refine Rg_run rfl (o_load1 Tryd.isAgg79 rfl (hb.get 0 rfl)) ?_
  refine Rg_srng rfl Tryd.underlying79 rfl hm ?_
  intro r11 w1 x2 hge11 hlt11 hit11
  have z3 := Bel.size x2
  replace hX := Bel.ex hX x2
  replace hb := hb.ext x2
  replace hm := hm.ext x2
  refine Rg_nil ?_
  refine W_block ?_
  obtain ⟨n0, hn0⟩ : ∃ n, n = w1.heap.size := ⟨_, rfl⟩
  refine W_for (α := List Str × Value × List Str) [(5, 6), (12, 22)] (fun g => [(5, g.2.1)]) (fun g w' => ((g.2.2 ++ g.1).Perm t) ∧ Bel False (fun g => w.heap.size ≤ g) w1 w' ∧ ((∃ cur, Is' w' r11 m t g.1 cur) ∧ Own encS 1 9 (fun g => n0 ≤ g) w' g.2.1 (g.2.2.filter q))) (fun g => g.1.length) (t, .slice none 0 0, []) ⟨rfl, trivial⟩ ⟨(by simp), Bel.refl _ _, ⟨⟨none, hit11⟩, Own.nil _ _⟩⟩ ?_
  rintro ⟨lf, u, sn⟩ fb6 w5 ⟨hpm, hXL4, ⟨⟨cur, hit11⟩, hown⟩⟩
  dsimp only at *
  have z7 := Bel.size hXL4
  replace hX := Bel.out hX hXL4 (fun g h1 h2 => by first | exact h2 | omega)
  replace hb := hb.keep hXL4 (fun h => by omega)
  replace hm := hm.keep hXL4 (fun h => by omega)
  refine W_seq ?_
  refine W_region ?_
  refine Rg_snext rfl rfl hit11 (by omega) (fun hnil12 => ?_) ?_
  · skip
    refine Rg_run rfl (o_extract rfl rfl) ?_
    refine Rg_nil ?_
    refine W_seq ?_
    refine W_cond_false rfl ?_
    refine W_exit ?_
    refine exAt_hit ?_
    refine W_seq ?_
    refine W_region ?_
    refine Rg_run rfl (o_moveh (v := u) rfl) ?_
    refine Rg_enter rfl (o_call2 Tryd.call79 rfl rfl) (Ok.mono (sorts_ok _ _ _ _ hown (by have h1 := List.length_filter_le q sn; have h2 := hpm.length_eq; simp at h2; omega) (fun x hx => hok x (hpm.mem_iff.1 (by simp at hx ⊢; exact .inl hx.1)))) ?_)
    rintro _ w8 ⟨rfl, x9, r2, hperm, hpw, hown⟩
    have z10 := Bel.size x9
    replace hX := Bel.out hX x9 (fun g h1 h2 => by first | exact h2 | omega)
    replace hb := hb.keep x9 (fun h => by omega)
    replace hm := hm.keep x9 (fun h => by omega)
    replace hit11 := hit11.keep x9 (fun h => by omega) (fun h => by omega)
    refine Rg_nil ?_
    refine W_seq ?_
    refine W_region ?_
    refine Rg_run rfl (o_moveh (v := u) rfl) ?_
    refine Rg_run rfl (o_assignh (v := u) rfl) ?_
    refine Rg_nil ?_
    refine W_ret ?_
    refine ⟨_, res_tmp rfl rfl, ?_⟩
    subst hnil12; rw [List.append_nil] at hpm; exact ⟨r2, ⟨hperm.trans (hpm.filter q), hpw⟩, hown.mono (fun g h1 h2 => by omega), hX⟩
  · skip
    intro p12 lf12 w11 hp12 x12 hit11
    have z13 := Bel.size x12
    replace hX := Bel.out hX x12 (fun g h1 h2 => by first | exact h2 | omega)
    replace hXL4 := Bel.out hXL4 x12 (fun g h1 h2 => by first | exact h2 | omega)
    replace hb := hb.keep x12 (fun h => by omega)
    replace hm := hm.keep x12 (fun h => by omega)
    replace hown := hown.keepD x12 (fun g h1 h2 h3 => by omega)
    refine Rg_run rfl (o_extract rfl rfl) ?_
    refine Rg_nil ?_
    refine W_seq ?_
    refine W_cond_true rfl ?_
    refine W_skip ?_
    refine W_block ?_
    refine W_seq ?_
    refine W_region ?_
    have hpt := wh_mem hpm hp12
    refine Rg_run rfl (o_scur hit11 rfl) ?_
    refine Rg_run rfl (o_extract rfl rfl) ?_
    refine Rg_run rfl (o_assignh (v := str _) rfl) ?_
    refine Rg_nil ?_
    refine W_seq ?_
    refine W_region ?_
    refine Rg_run rfl (o_moveh (v := .func _ _ _) rfl) ?_
    refine Rg_run rfl (o_moveh (v := str _) rfl) ?_
    refine Rg_enter rfl (o_clo1 hent rfl rfl) (Ok.mono (hq _ hpt _ hX) ?_)
    rintro _ w14 ⟨rfl, x15⟩
    have z16 := Bel.size x15
    replace hX := Bel.ex hX x15
    replace hXL4 := Bel.ex hXL4 x15
    replace hb := hb.ext x15
    replace hm := hm.ext x15
    replace hown := hown.ext x15
    replace hit11 := hit11.ext x15
    refine Rg_nil ?_
    refine W_cond rfl (fun hc3 => ?_) (fun hc3 => ?_)
    · skip
      refine W_region ?_
      refine Rg_run rfl (o_moveh (v := u) rfl) ?_
      refine Rg_run rfl (o_moveh (v := str _) rfl) ?_
      refine Rg_bs (vs := [str _]) ([p12]) rfl encS_ok el_string rfl rfl ⟨rfl, trivial⟩ rfl rfl rfl rfl ?_
      intro a21 w17 x18 hown21
      have z19 := Bel.size x18
      replace hX := Bel.ex hX x18
      replace hXL4 := Bel.ex hXL4 x18
      replace hb := hb.ext x18
      replace hm := hm.ext x18
      replace hown := hown.ext x18
      replace hit11 := hit11.ext x18
      replace hown21 := hown21.mono (D' := fun g => w.heap.size ≤ g) (fun g h1 h2 => by omega)
      refine Rg_app rfl encS_ok el_string rfl rfl hown (hown21.slA encS_ok) rfl (by have h1 := List.length_filter_le q sn; have h2 := hpm.length_eq; simp at h2 ⊢; omega) (fun g h => by omega) ?_
      intro v22 w20 x21 hown
      have z22 := Bel.size x21
      replace hX := Bel.out hX x21 (fun g h1 h2 => by first | exact h2 | omega)
      replace hXL4 := Bel.out hXL4 x21 (fun g h1 h2 => by first | exact h2 | omega)
      replace hb := hb.keep x21 (fun h => by omega)
      replace hm := hm.keep x21 (fun h => by omega)
      replace hit11 := hit11.keep x21 (fun h => by omega) (fun h => by omega)
      refine Rg_run rfl (o_assignh (v := v22) rfl) ?_
      refine Rg_nil ?_
      refine ⟨(lf12, v22, sn ++ [p12]), ⟨?_, trivial⟩, ?_, ⟨?_, hXL4, ?_⟩, ?_⟩
      · first | rfl | (go_num) | (exact congrArg _ (by omega))
      · repeat (first | exact off_refl _ _ | exact off_mix | refine off_put rfl ?_ | refine off_putN ?_ | refine off_setL rfl ?_ | refine off_mix' rfl ?_)
      · exact wh_perm hpm hp12
      · exact ⟨⟨_, hit11⟩, by show Own _ _ _ _ _ _ ((sn ++ [p12]).filter q); rw [List.filter_append, wh_one (by assumption)]; exact hown⟩
      · have := hp12.length_eq; simp at this; show lf12.length < lf.length; omega
    · skip
      refine W_skip ?_
      refine ⟨(lf12, u, sn ++ [p12]), ⟨?_, trivial⟩, ?_, ⟨?_, hXL4, ?_⟩, ?_⟩
      · first | rfl | (go_num) | (exact congrArg _ (by omega))
      · repeat (first | exact off_refl _ _ | exact off_mix | refine off_put rfl ?_ | refine off_putN ?_ | refine off_setL rfl ?_ | refine off_mix' rfl ?_)
      · exact wh_perm hpm hp12
      · exact ⟨⟨_, hit11⟩, by show Own _ _ _ _ _ _ ((sn ++ [p12]).filter q); rw [List.filter_append, wh_non (by assumption), List.append_nil]; exact hown⟩
      · have := hp12.length_eq; simp at this; show lf12.length < lf.length; omega

theorem below1_ok (x p : Str) (b : Nat) (w : World) (hx : x.length ≤ 1000000) (hp : p.length ≤ 1000000) (hb : At w b 0 [str p]) : Ok Tryd.prog 65 #[str x, .pointer (some ⟨b, 0, none⟩)] w fun v w' => v = .bool (withinS x p) ∧ Ext False w w' := by
  refine Ok_of_W 7 Tryd.func65 rfl rfl rfl ?_
  have hX : Ext False w w := Bel.refl _ _
  refine W_seq ?_
  refine W_region ?_
  refine Rg_run rfl o_assignc ?_
  refine Rg_nil ?_
  refine W_seq ?_
  refine W_region ?_
  refine Rg_run rfl (o_moveh (v := str _) rfl) ?_
  refine Rg_run rfl (o_load1 Tryd.isAgg9 rfl (hb.get 0 rfl)) ?_
  refine Rg_enter rfl (o_call2 Tryd.call16 rfl rfl) (Ok.mono (within_ok (False) _ _ (by first | assumption | omega | (simp; done) | (simp; omega) | (simp at *; omega)) (by first | assumption | omega | (simp; done) | (simp; omega) | (simp at *; omega)) _) ?_)
  rintro _ w1 ⟨rfl, x2⟩
  replace hX := Bel.ex hX x2
  replace hb := hb.ext x2
  refine Rg_run rfl (o_assignh (v := .bool _) rfl) ?_
  refine Rg_nil ?_
  refine W_ret ?_
  refine ⟨_, res_tmp rfl rfl, ?_⟩
  refine ⟨congrArg Value.bool ?_, hX⟩
  all_goals (rfl)

theorem child1_ok (x p : Str) (b : Nat) (w : World) (hx : x.length ≤ 1000000) (hp : p.length ≤ 1000000) (hb : At w b 0 [str p]) : Ok Tryd.prog 66 #[str x, .pointer (some ⟨b, 0, none⟩)] w fun v w' => v = .bool ((parentS x).2 && (parentS x).1 == p) ∧ Ext False w w' := by
  refine Ok_of_W 17 Tryd.func66 rfl rfl rfl ?_
  have hX : Ext False w w := Bel.refl _ _
  refine W_seq ?_
  refine W_region ?_
  refine Rg_run rfl o_assignc ?_
  refine Rg_nil ?_
  refine W_seq ?_
  refine W_region ?_
  refine Rg_run rfl (o_moveh (v := str _) rfl) ?_
  refine Rg_enter rfl (o_call1 Tryd.call25 rfl) (Ok.mono (pparent_ok _ _ (by first | assumption | omega | (simp; done) | (simp; omega) | (simp at *; omega))) ?_)
  rintro _ w1 ⟨rfl, x2⟩
  replace hX := Bel.ex hX x2
  replace hb := hb.ext x2
  refine Rg_run rfl (o_moveh (v := .tuple _) rfl) ?_
  refine Rg_run rfl (o_extract rfl rfl) ?_
  refine Rg_run rfl (o_extract rfl rfl) ?_
  refine Rg_run rfl (o_assignh (v := str _) rfl) ?_
  refine Rg_run rfl (o_assignh (v := .bool _) rfl) ?_
  refine Rg_nil ?_
  refine W_seq ?_
  refine W_region ?_
  refine Rg_run rfl (o_moveh (v := .bool _) rfl) ?_
  refine Rg_run rfl (o_moveh (v := .bool _) rfl) ?_
  refine Rg_may 1 12 rfl rfl rfl (fun hg => (o_moveh (v := str _) rfl)) ?_
  refine Rg_may 1 12 rfl rfl rfl (fun hg => (o_load1 Tryd.isAgg9 rfl (hb.get 0 rfl))) ?_
  refine Rg_may 1 12 rfl rfl rfl (fun hg => (o_seql (gsel (u := undef) hg) (gsel (u := undef) hg))) ?_
  refine Rg_run rfl (o_and (u := undef) rfl rfl) ?_
  refine Rg_run rfl (o_assignh (v := .bool _) rfl) ?_
  refine Rg_nil ?_
  refine W_ret ?_
  refine ⟨_, res_tmp rfl rfl, ?_⟩
  refine ⟨congrArg Value.bool ?_, hX⟩
  all_goals (rfl)

theorem tbelow_ok (w : World) (bt mt : Nat) (t : List Str) (hbt : At w bt 0 [.map (some mt)]) (hmt : Ms w mt t) (nt : t.length ≤ 1000000) (ot : ∀ x ∈ t, splitOk x = true ∧ x.length ≤ 1000000) (p : Str) (hp : p.length ≤ 1000000) : Ok Tryd.prog 34 #[.pointer (some ⟨bt, 0, none⟩), str p] w fun v w' => ∃ r : List Str, Srt r (belowT t p) ∧ Own encS 1 9 (Fsh w w') w' v r ∧ Ext False w w' := by
  have hlbt := hbt.lt; have hlmt := hmt.lt
  refine Ok_of_W 12 Tryd.func34 rfl rfl rfl ?_
  have hX : Ext False w w := Bel.refl _ _
  refine W_seq ?_
  refine W_region ?_
  refine Rg_newB rfl (o_box (v := str _) rfl) ?_
  intro b3 w1 x2 hge3 hb3
  have hlt3 := hb3.lt
  have z3 := Bel.size x2
  replace hX := Bel.ex hX x2
  replace hbt := hbt.ext x2
  replace hmt := hmt.ext x2
  refine Rg_run rfl o_assignc ?_
  refine Rg_nil ?_
  refine W_seq ?_
  refine W_seq ?_
  refine W_region ?_
  refine Rg_run rfl (o_moveh (v := .pointer _) rfl) ?_
  refine Rg_run rfl (o_load1 Tryd.isAgg9 rfl (hb3.at.get 0 rfl)) ?_
  refine Rg_enter rfl (o_call2 Tryd.call36 rfl rfl) (Ok.mono (thas_ok _ _ _ _ hbt hmt _) ?_)
  rintro _ w4 ⟨rfl, x5⟩
  have z6 := Bel.size x5
  replace hX := Bel.ex hX x5
  replace hbt := hbt.ext x5
  replace hmt := hmt.ext x5
  replace hb3 := hb3.ext x5
  refine Rg_run rfl (o_not rfl) ?_
  refine Rg_nil ?_
  refine W_cond rfl (fun hc1 => ?_) (fun hc1 => ?_)
  · skip
    refine W_seq ?_
    refine W_region ?_
    refine Rg_run rfl o_assignc ?_
    refine Rg_nil ?_
    refine W_ret ?_
    refine ⟨_, res_tmp rfl rfl, ?_⟩
    exact ⟨[], belowT_no (bnot_t hc1), Own.nil _ _, hX⟩
  · skip
    refine W_skip ?_
    refine W_seq ?_
    refine W_region ?_
    refine Rg_run rfl (o_moveh (v := .pointer _) rfl) ?_
    refine Rg_run rfl (o_fn1 rfl) ?_
    refine Rg_enter rfl (o_call2 Tryd.call64 rfl rfl) (Ok.mono (twhich_ok _ _ t 65 #[.pointer (some ⟨b3, 0, none⟩)] (fun x => withinS x p) _ hbt hmt nt ot Tryd.call65 (fun x hx w' hw' => below1_ok x p b3 w' (ot x hx).2 hp (hb3.at.ext hw'))) ?_)
    rintro v11 w7 ⟨l11, hsr11, hown11, x8⟩
    have z9 := Bel.size x8
    replace hX := Bel.ex hX x8
    replace hbt := hbt.ext x8
    replace hmt := hmt.ext x8
    replace hb3 := hb3.ext x8
    replace hown11 := hown11.mono (D' := fun g => w.heap.size ≤ g) (fun g h1 h2 => by omega)
    refine Rg_run rfl (o_assignh (v := v11) rfl) ?_
    refine Rg_nil ?_
    refine W_ret ?_
    refine ⟨_, res_tmp rfl rfl, ?_⟩
    exact ⟨l11, by rw [belowT, if_pos (bnot_f hc1)]; exact hsr11, hown11.mono (fun g h1 h2 => by omega), hX⟩

theorem tchild_ok (w : World) (bt mt : Nat) (t : List Str) (hbt : At w bt 0 [.map (some mt)]) (hmt : Ms w mt t) (nt : t.length ≤ 1000000) (ot : ∀ x ∈ t, splitOk x = true ∧ x.length ≤ 1000000) (p : Str) (hp : p.length ≤ 1000000) : Ok Tryd.prog 38 #[.pointer (some ⟨bt, 0, none⟩), str p] w fun v w' => ∃ r : List Str, Srt r (childT t p) ∧ Own encS 1 9 (Fsh w w') w' v r ∧ Ext False w w' := by
  have hlbt := hbt.lt; have hlmt := hmt.lt
  refine Ok_of_W 12 Tryd.func38 rfl rfl rfl ?_
  have hX : Ext False w w := Bel.refl _ _
  refine W_seq ?_
  refine W_region ?_
  refine Rg_newB rfl (o_box (v := str _) rfl) ?_
  intro b3 w1 x2 hge3 hb3
  have hlt3 := hb3.lt
  have z3 := Bel.size x2
  replace hX := Bel.ex hX x2
  replace hbt := hbt.ext x2
  replace hmt := hmt.ext x2
  refine Rg_run rfl o_assignc ?_
  refine Rg_nil ?_
  refine W_seq ?_
  refine W_seq ?_
  refine W_region ?_
  refine Rg_run rfl (o_moveh (v := .pointer _) rfl) ?_
  refine Rg_run rfl (o_load1 Tryd.isAgg9 rfl (hb3.at.get 0 rfl)) ?_
  refine Rg_enter rfl (o_call2 Tryd.call36 rfl rfl) (Ok.mono (thas_ok _ _ _ _ hbt hmt _) ?_)
  rintro _ w4 ⟨rfl, x5⟩
  have z6 := Bel.size x5
  replace hX := Bel.ex hX x5
  replace hbt := hbt.ext x5
  replace hmt := hmt.ext x5
  replace hb3 := hb3.ext x5
  refine Rg_run rfl (o_not rfl) ?_
  refine Rg_nil ?_
  refine W_cond rfl (fun hc1 => ?_) (fun hc1 => ?_)
  · skip
    refine W_seq ?_
    refine W_region ?_
    refine Rg_run rfl o_assignc ?_
    refine Rg_nil ?_
    refine W_ret ?_
    refine ⟨_, res_tmp rfl rfl, ?_⟩
    exact ⟨[], childT_no (bnot_t hc1), Own.nil _ _, hX⟩
  · skip
    refine W_skip ?_
    refine W_seq ?_
    refine W_region ?_
    refine Rg_run rfl (o_moveh (v := .pointer _) rfl) ?_
    refine Rg_run rfl (o_fn1 rfl) ?_
    refine Rg_enter rfl (o_call2 Tryd.call64 rfl rfl) (Ok.mono (twhich_ok _ _ t 66 #[.pointer (some ⟨b3, 0, none⟩)] (fun x => (parentS x).2 && (parentS x).1 == p) _ hbt hmt nt ot Tryd.call66 (fun x hx w' hw' => child1_ok x p b3 w' (ot x hx).2 hp (hb3.at.ext hw'))) ?_)
    rintro v11 w7 ⟨l11, hsr11, hown11, x8⟩
    have z9 := Bel.size x8
    replace hX := Bel.ex hX x8
    replace hbt := hbt.ext x8
    replace hmt := hmt.ext x8
    replace hb3 := hb3.ext x8
    replace hown11 := hown11.mono (D' := fun g => w.heap.size ≤ g) (fun g h1 h2 => by omega)
    refine Rg_run rfl (o_assignh (v := v11) rfl) ?_
    refine Rg_nil ?_
    refine W_ret ?_
    refine ⟨_, res_tmp rfl rfl, ?_⟩
    exact ⟨l11, by rw [childT, if_pos (bnot_f hc1)]; exact hsr11, hown11.mono (fun g h1 h2 => by omega), hX⟩

theorem trem_no (w : World) (bt mt : Nat) (t : List Str) (hbt : At w bt 0 [.map (some mt)]) (hmt : Ms w mt t) (nt : t.length ≤ 1000000) (ot : ∀ x ∈ t, splitOk x = true ∧ x.length ≤ 1000000) (p : Str) (hp : p.length ≤ 1000000) (hr : remE t p ≠ 0) : Ok Tryd.prog 42 #[.pointer (some ⟨bt, 0, none⟩), str p] w fun v w' => v = .tuple #[.pointer none, .int .i64 (remE t p)] ∧ Ext False w w' := by
  have hlbt := hbt.lt; have hlmt := hmt.lt
  refine Ok_of_W 41 Tryd.func42 rfl rfl rfl ?_
  have hX : Ext False w w := Bel.refl _ _
  refine W_seq ?_
  refine W_region ?_
  refine Rg_run rfl o_assignc ?_
  refine Rg_run rfl o_assignc ?_
  refine Rg_nil ?_
  refine W_seq ?_
  refine W_block ?_
  refine W_seq ?_
  refine W_region ?_
  refine Rg_run rfl (o_moveh (v := .pointer _) rfl) ?_
  refine Rg_run rfl (o_peq Tryd.underlying42 rfl rfl) ?_
  refine Rg_run rfl (o_assignh (v := .bool _) rfl) ?_
  refine Rg_nil ?_
  refine W_cond_false rfl ?_
  refine W_seq ?_
  refine W_region ?_
  refine Rg_run rfl (o_moveh (v := str _) rfl) ?_
  refine Rg_enter rfl (o_call1 Tryd.call26 rfl) (Ok.mono (pvalid_ok (False) _ (by first | assumption | omega | (simp; done) | (simp; omega) | (simp at *; omega)) _) ?_)
  rintro _ w1 ⟨rfl, x2⟩
  have z3 := Bel.size x2
  replace hX := Bel.ex hX x2
  replace hbt := hbt.ext x2
  replace hmt := hmt.ext x2
  refine Rg_run rfl (o_not rfl) ?_
  refine Rg_run rfl (o_assignh (v := .bool _) rfl) ?_
  refine Rg_nil ?_
  refine W_cond rfl (fun hc2 => ?_) (fun hc2 => ?_)
  · skip
    refine W_seq ?_
    refine W_region ?_
    refine Rg_run rfl o_assignc ?_
    refine Rg_run rfl o_assignc ?_
    refine Rg_nil ?_
    refine W_ret ?_
    refine ⟨_, res_tmp2 rfl rfl rfl, ?_⟩
    exact ⟨by rw [remE_a (bnot_t hc2)]; rfl, hX⟩
  · skip
    refine W_seq ?_
    refine W_region ?_
    refine Rg_run rfl (o_moveh (v := str _) rfl) ?_
    refine Rg_run rfl (o_seql rfl rfl) ?_
    refine Rg_run rfl (o_assignh (v := .bool _) rfl) ?_
    refine Rg_nil ?_
    refine W_cond rfl (fun hc3 => ?_) (fun hc3 => ?_)
    · skip
      refine W_seq ?_
      refine W_region ?_
      refine Rg_run rfl o_assignc ?_
      refine Rg_run rfl o_assignc ?_
      refine Rg_nil ?_
      refine W_ret ?_
      refine ⟨_, res_tmp2 rfl rfl rfl, ?_⟩
      exact ⟨by rw [remE_b (bnot_f hc2) hc3]; rfl, hX⟩
    · skip
      refine W_seq ?_
      refine W_region ?_
      refine Rg_run rfl (o_moveh (v := .pointer _) rfl) ?_
      refine Rg_run rfl (o_nilc rfl) ?_
      refine Rg_run rfl (o_fa Tryd.underlying81 rfl Tryd.sizeOf79 rfl) ?_
      refine Rg_run rfl (o_load1 Tryd.isAgg79 rfl (hbt.get 0 rfl)) ?_
      refine Rg_run rfl (o_moveh (v := str _) rfl) ?_
      refine Rg_run rfl (o_slook Tryd.underlying79 Tryd.underlying9 Tryd.zeroValue4 hmt rfl rfl) ?_
      refine Rg_run rfl (o_not rfl) ?_
      refine Rg_run rfl (o_assignh (v := .bool _) rfl) ?_
      refine Rg_nil ?_
      refine W_cond rfl (fun hc4 => ?_) (fun hc4 => ?_)
      · skip
        refine W_seq ?_
        refine W_region ?_
        refine Rg_run rfl o_assignc ?_
        refine Rg_run rfl o_assignc ?_
        refine Rg_nil ?_
        refine W_ret ?_
        refine ⟨_, res_tmp2 rfl rfl rfl, ?_⟩
        exact ⟨by rw [remE_c (bnot_f hc2) hc3 (bnot_t hc4)]; rfl, hX⟩
      · skip
        refine W_seq ?_
        refine W_region ?_
        refine Rg_run rfl (o_moveh (v := .pointer _) rfl) ?_
        refine Rg_run rfl (o_moveh (v := str _) rfl) ?_
        refine Rg_enter rfl (o_call2 Tryd.call34 rfl rfl) (Ok.mono (tbelow_ok _ _ _ _ hbt hmt nt ot _ hp) ?_)
        rintro v28 w4 ⟨l28, hsr28, hown28, x5⟩
        have z6 := Bel.size x5
        replace hX := Bel.ex hX x5
        replace hbt := hbt.ext x5
        replace hmt := hmt.ext x5
        obtain ⟨a28, c28, hv28, hs28⟩ := hown28.sl encS_ok; subst hv28; have hlr := hsr28.1.length_eq
        refine Rg_run rfl (o_llen Tryd.underlying35 rfl) ?_
        refine Rg_run rfl (o_gtr rfl rfl) ?_
        refine Rg_run rfl (o_assignh (v := .bool _) rfl) ?_
        refine Rg_nil ?_
        refine W_cond rfl (fun hc5 => ?_) (fun hc5 => ?_)
        · skip
          replace hc5 := of_decide_eq_true hc5
          refine W_seq ?_
          refine W_region ?_
          refine Rg_run rfl o_assignc ?_
          refine Rg_run rfl o_assignc ?_
          refine Rg_nil ?_
          refine W_ret ?_
          refine ⟨_, res_tmp2 rfl rfl rfl, ?_⟩
          exact ⟨by rw [remE_d (bnot_f hc2) hc3 (bnot_f hc4) (by omega)]; rfl, hX⟩
        · skip
          replace hc5 := of_decide_eq_false hc5
          refine W_skip ?_
          refine W_seq ?_
          refine W_region ?_
          refine Rg_run rfl (o_moveh (v := .pointer _) rfl) ?_
          refine Rg_run rfl (o_nilc rfl) ?_
          refine Rg_run rfl (o_fa Tryd.underlying81 rfl Tryd.sizeOf79 rfl) ?_
          refine Rg_run rfl (o_load1 Tryd.isAgg79 rfl (hbt.get 0 rfl)) ?_
          refine Rg_enter rfl (o_call1 Tryd.call68 rfl) (Ok.mono (mclone_ok _ _ _ hmt) ?_)
          rintro _ w7 ⟨m35, rfl, hge35, hlt35, hm35, x8⟩
          have z9 := Bel.size x8
          replace hX := Bel.ex hX x8
          replace hbt := hbt.ext x8
          replace hmt := hmt.ext x8
          replace hs28 := hs28.ext x8
          refine Rg_run rfl (o_assignh (v := .map _) rfl) ?_
          refine Rg_nil ?_
          refine W_seq ?_
          refine W_region ?_
          refine Rg_run rfl (o_moveh (v := .map _) rfl) ?_
          refine Rg_run rfl (o_moveh (v := str _) rfl) ?_
          refine Rg_sdel rfl Tryd.underlying79 Tryd.underlying9 rfl rfl hm35 ?_
          intro w10 x11 hm35
          have z12 := Bel.size x11
          replace hX := Bel.out hX x11 (fun g h1 h2 => by first | exact h2 | omega)
          replace hbt := hbt.keep x11 (fun h => by omega)
          replace hmt := hmt.keep x11 (fun h => by omega)
          replace hs28 := hs28.keep x11 (fun g h1 h2 h3 => by omega)
          refine Rg_nil ?_
          refine W_seq ?_
          refine W_region ?_
          refine Rg_run rfl (o_moveh (v := .map _) rfl) ?_
          refine Rg_run rfl (o_build (cells := [.map (some m35)]) (vs := [(0, .map _)]) rfl (by kernel_rfl)) ?_
          refine Rg_newB rfl (o_box (v := .agg _) rfl) ?_
          intro b40 w13 x14 hge40 hb40
          have hlt40 := hb40.lt
          have z15 := Bel.size x14
          replace hX := Bel.ex hX x14
          replace hbt := hbt.ext x14
          replace hmt := hmt.ext x14
          replace hs28 := hs28.ext x14
          replace hm35 := hm35.ext x14
          refine Rg_run rfl (o_assignh (v := .pointer _) rfl) ?_
          refine Rg_run rfl o_assignc ?_
          refine Rg_nil ?_
          refine W_ret ?_
          refine ⟨_, res_tmp2 rfl rfl rfl, ?_⟩
          exact absurd (remE_e (bnot_f hc2) hc3 (bnot_f hc4) (by omega)) hr

theorem trem_ok (w : World) (bt mt : Nat) (t : List Str) (hbt : At w bt 0 [.map (some mt)]) (hmt : Ms w mt t) (nt : t.length ≤ 1000000) (ot : ∀ x ∈ t, splitOk x = true ∧ x.length ≤ 1000000) (p : Str) (hp : p.length ≤ 1000000) (hr : remE t p = 0) : Ok Tryd.prog 42 #[.pointer (some ⟨bt, 0, none⟩), str p] w fun v w' => ∃ b m, v = .tuple #[.pointer (some ⟨b, 0, none⟩), .int .i64 0] ∧ w.heap.size ≤ b ∧ b < w'.heap.size ∧ w.heap.size ≤ m ∧ m < w'.heap.size ∧ b ≠ m ∧ At w' b 0 [.map (some m)] ∧ Ms w' m (t.filter fun q => q != p) ∧ Ext False w w' := by
  have hlbt := hbt.lt; have hlmt := hmt.lt
  refine Ok_of_W 41 Tryd.func42 rfl rfl rfl ?_
  have hX : Ext False w w := Bel.refl _ _
  refine W_seq ?_
  refine W_region ?_
  refine Rg_run rfl o_assignc ?_
  refine Rg_run rfl o_assignc ?_
  refine Rg_nil ?_
  refine W_seq ?_
  refine W_block ?_
  refine W_seq ?_
  refine W_region ?_
  refine Rg_run rfl (o_moveh (v := .pointer _) rfl) ?_
  refine Rg_run rfl (o_peq Tryd.underlying42 rfl rfl) ?_
  refine Rg_run rfl (o_assignh (v := .bool _) rfl) ?_
  refine Rg_nil ?_
  refine W_cond_false rfl ?_
  refine W_seq ?_
  refine W_region ?_
  refine Rg_run rfl (o_moveh (v := str _) rfl) ?_
  refine Rg_enter rfl (o_call1 Tryd.call26 rfl) (Ok.mono (pvalid_ok (False) _ (by first | assumption | omega | (simp; done) | (simp; omega) | (simp at *; omega)) _) ?_)
  rintro _ w1 ⟨rfl, x2⟩
  have z3 := Bel.size x2
  replace hX := Bel.ex hX x2
  replace hbt := hbt.ext x2
  replace hmt := hmt.ext x2
  refine Rg_run rfl (o_not rfl) ?_
  refine Rg_run rfl (o_assignh (v := .bool _) rfl) ?_
  refine Rg_nil ?_
  refine W_cond rfl (fun hc2 => ?_) (fun hc2 => ?_)
  · skip
    refine W_seq ?_
    refine W_region ?_
    refine Rg_run rfl o_assignc ?_
    refine Rg_run rfl o_assignc ?_
    refine Rg_nil ?_
    refine W_ret ?_
    refine ⟨_, res_tmp2 rfl rfl rfl, ?_⟩
    rw [remE_a (bnot_t hc2)] at hr; cases hr
  · skip
    refine W_seq ?_
    refine W_region ?_
    refine Rg_run rfl (o_moveh (v := str _) rfl) ?_
    refine Rg_run rfl (o_seql rfl rfl) ?_
    refine Rg_run rfl (o_assignh (v := .bool _) rfl) ?_
    refine Rg_nil ?_
    refine W_cond rfl (fun hc3 => ?_) (fun hc3 => ?_)
    · skip
      refine W_seq ?_
      refine W_region ?_
      refine Rg_run rfl o_assignc ?_
      refine Rg_run rfl o_assignc ?_
      refine Rg_nil ?_
      refine W_ret ?_
      refine ⟨_, res_tmp2 rfl rfl rfl, ?_⟩
      rw [remE_b (bnot_f hc2) hc3] at hr; cases hr
    · skip
      refine W_seq ?_
      refine W_region ?_
      refine Rg_run rfl (o_moveh (v := .pointer _) rfl) ?_
      refine Rg_run rfl (o_nilc rfl) ?_
      refine Rg_run rfl (o_fa Tryd.underlying81 rfl Tryd.sizeOf79 rfl) ?_
      refine Rg_run rfl (o_load1 Tryd.isAgg79 rfl (hbt.get 0 rfl)) ?_
      refine Rg_run rfl (o_moveh (v := str _) rfl) ?_
      refine Rg_run rfl (o_slook Tryd.underlying79 Tryd.underlying9 Tryd.zeroValue4 hmt rfl rfl) ?_
      refine Rg_run rfl (o_not rfl) ?_
      refine Rg_run rfl (o_assignh (v := .bool _) rfl) ?_
      refine Rg_nil ?_
      refine W_cond rfl (fun hc4 => ?_) (fun hc4 => ?_)
      · skip
        refine W_seq ?_
        refine W_region ?_
        refine Rg_run rfl o_assignc ?_
        refine Rg_run rfl o_assignc ?_
        refine Rg_nil ?_
        refine W_ret ?_
        refine ⟨_, res_tmp2 rfl rfl rfl, ?_⟩
        rw [remE_c (bnot_f hc2) hc3 (bnot_t hc4)] at hr; cases hr
      · skip
        refine W_seq ?_
        refine W_region ?_
        refine Rg_run rfl (o_moveh (v := .pointer _) rfl) ?_
        refine Rg_run rfl (o_moveh (v := str _) rfl) ?_
        refine Rg_enter rfl (o_call2 Tryd.call34 rfl rfl) (Ok.mono (tbelow_ok _ _ _ _ hbt hmt nt ot _ hp) ?_)
        rintro v28 w4 ⟨l28, hsr28, hown28, x5⟩
        have z6 := Bel.size x5
        replace hX := Bel.ex hX x5
        replace hbt := hbt.ext x5
        replace hmt := hmt.ext x5
        obtain ⟨a28, c28, hv28, hs28⟩ := hown28.sl encS_ok; subst hv28; have hlr := hsr28.1.length_eq
        refine Rg_run rfl (o_llen Tryd.underlying35 rfl) ?_
        refine Rg_run rfl (o_gtr rfl rfl) ?_
        refine Rg_run rfl (o_assignh (v := .bool _) rfl) ?_
        refine Rg_nil ?_
        refine W_cond rfl (fun hc5 => ?_) (fun hc5 => ?_)
        · skip
          replace hc5 := of_decide_eq_true hc5
          refine W_seq ?_
          refine W_region ?_
          refine Rg_run rfl o_assignc ?_
          refine Rg_run rfl o_assignc ?_
          refine Rg_nil ?_
          refine W_ret ?_
          refine ⟨_, res_tmp2 rfl rfl rfl, ?_⟩
          rw [remE_d (bnot_f hc2) hc3 (bnot_f hc4) (by omega)] at hr; cases hr
        · skip
          replace hc5 := of_decide_eq_false hc5
          refine W_skip ?_
          refine W_seq ?_
          refine W_region ?_
          refine Rg_run rfl (o_moveh (v := .pointer _) rfl) ?_
          refine Rg_run rfl (o_nilc rfl) ?_
          refine Rg_run rfl (o_fa Tryd.underlying81 rfl Tryd.sizeOf79 rfl) ?_
          refine Rg_run rfl (o_load1 Tryd.isAgg79 rfl (hbt.get 0 rfl)) ?_
          refine Rg_enter rfl (o_call1 Tryd.call68 rfl) (Ok.mono (mclone_ok _ _ _ hmt) ?_)
          rintro _ w7 ⟨m35, rfl, hge35, hlt35, hm35, x8⟩
          have z9 := Bel.size x8
          replace hX := Bel.ex hX x8
          replace hbt := hbt.ext x8
          replace hmt := hmt.ext x8
          replace hs28 := hs28.ext x8
          refine Rg_run rfl (o_assignh (v := .map _) rfl) ?_
          refine Rg_nil ?_
          refine W_seq ?_
          refine W_region ?_
          refine Rg_run rfl (o_moveh (v := .map _) rfl) ?_
          refine Rg_run rfl (o_moveh (v := str _) rfl) ?_
          refine Rg_sdel rfl Tryd.underlying79 Tryd.underlying9 rfl rfl hm35 ?_
          intro w10 x11 hm35
          have z12 := Bel.size x11
          replace hX := Bel.out hX x11 (fun g h1 h2 => by first | exact h2 | omega)
          replace hbt := hbt.keep x11 (fun h => by omega)
          replace hmt := hmt.keep x11 (fun h => by omega)
          replace hs28 := hs28.keep x11 (fun g h1 h2 h3 => by omega)
          refine Rg_nil ?_
          refine W_seq ?_
          refine W_region ?_
          refine Rg_run rfl (o_moveh (v := .map _) rfl) ?_
          refine Rg_run rfl (o_build (cells := [.map (some m35)]) (vs := [(0, .map _)]) rfl (by kernel_rfl)) ?_
          refine Rg_newB rfl (o_box (v := .agg _) rfl) ?_
          intro b40 w13 x14 hge40 hb40
          have hlt40 := hb40.lt
          have z15 := Bel.size x14
          replace hX := Bel.ex hX x14
          replace hbt := hbt.ext x14
          replace hmt := hmt.ext x14
          replace hs28 := hs28.ext x14
          replace hm35 := hm35.ext x14
          refine Rg_run rfl (o_assignh (v := .pointer _) rfl) ?_
          refine Rg_run rfl o_assignc ?_
          refine Rg_nil ?_
          refine W_ret ?_
          refine ⟨_, res_tmp2 rfl rfl rfl, ?_⟩
          exact ⟨_, _, rfl, by omega, by omega, by omega, by omega, by omega, hb40.at, hm35, hX⟩

theorem tadd_nil (p : Str) (w : World) : Ok Tryd.prog 43 #[.pointer none, str p] w fun v w' => v = .tuple #[.pointer none, .int .i64 1] ∧ Ext False w w' := by
  refine Ok_of_W 34 Tryd.func43 rfl rfl rfl ?_
  have hX : Ext False w w := Bel.refl _ _
  refine W_seq ?_
  refine W_region ?_
  refine Rg_run rfl o_assignc ?_
  refine Rg_run rfl o_assignc ?_
  refine Rg_nil ?_
  refine W_seq ?_
  refine W_seq ?_
  refine W_region ?_
  refine Rg_run rfl (o_moveh (v := .pointer _) rfl) ?_
  refine Rg_run rfl (o_peq Tryd.underlying42 rfl rfl) ?_
  refine Rg_nil ?_
  refine W_cond_true rfl ?_
  refine W_seq ?_
  refine W_region ?_
  refine Rg_run rfl o_assignc ?_
  refine Rg_run rfl o_assignc ?_
  refine Rg_nil ?_
  refine W_ret ?_
  refine ⟨_, res_tmp2 rfl rfl rfl, ?_⟩
  exact ⟨rfl, hX⟩

theorem trem_nil (p : Str) (w : World) : Ok Tryd.prog 42 #[.pointer none, str p] w fun v w' => v = .tuple #[.pointer none, .int .i64 1] ∧ Ext False w w' := by
  refine Ok_of_W 41 Tryd.func42 rfl rfl rfl ?_
  have hX : Ext False w w := Bel.refl _ _
  refine W_seq ?_
  refine W_region ?_
  refine Rg_run rfl o_assignc ?_
  refine Rg_run rfl o_assignc ?_
  refine Rg_nil ?_
  refine W_seq ?_
  refine W_block ?_
  refine W_seq ?_
  refine W_region ?_
  refine Rg_run rfl (o_moveh (v := .pointer _) rfl) ?_
  refine Rg_run rfl (o_peq Tryd.underlying42 rfl rfl) ?_
  refine Rg_run rfl (o_assignh (v := .bool _) rfl) ?_
  refine Rg_nil ?_
  refine W_cond_true rfl ?_
  refine W_seq ?_
  refine W_region ?_
  refine Rg_run rfl o_assignc ?_
  refine Rg_run rfl o_assignc ?_
  refine Rg_nil ?_
  refine W_ret ?_
  refine ⟨_, res_tmp2 rfl rfl rfl, ?_⟩
  exact ⟨rfl, hX⟩

theorem thas_nil (p : Str) (w : World) : Ok Tryd.prog 36 #[.pointer none, str p] w fun v w' => v = .bool false ∧ Ext False w w' := by
  refine Ok_of_W 15 Tryd.func36 rfl rfl rfl ?_
  have hX : Ext False w w := Bel.refl _ _
  refine W_seq ?_
  refine W_region ?_
  refine Rg_run rfl o_assignc ?_
  refine Rg_nil ?_
  refine W_seq ?_
  refine W_region ?_
  refine Rg_run rfl (o_moveh (v := .pointer _) rfl) ?_
  refine Rg_run rfl (o_pne Tryd.underlying42 rfl rfl) ?_
  refine Rg_run rfl (o_moveh (v := .bool _) rfl) ?_
  refine Rg_off 2 7 rfl rfl rfl rfl rfl ?_
  refine Rg_off 2 7 rfl rfl rfl rfl rfl ?_
  refine Rg_off 2 7 rfl rfl rfl rfl rfl ?_
  refine Rg_off 2 7 rfl rfl rfl rfl rfl ?_
  refine Rg_off 2 7 rfl rfl rfl rfl rfl ?_
  refine Rg_off 2 7 rfl rfl rfl rfl rfl ?_
  refine Rg_run rfl (o_pickF (v := .bool _) rfl rfl) ?_
  refine Rg_run rfl (o_assignh (v := .bool _) rfl) ?_
  refine Rg_nil ?_
  refine W_ret ?_
  refine ⟨_, res_tmp rfl rfl, ?_⟩
  refine ⟨congrArg Value.bool ?_, hX⟩
  all_goals (rfl)

theorem tlen_nil (w : World) : Ok Tryd.prog 33 #[.pointer none] w fun v w' => v = .int .i64 0 ∧ Ext False w w' := by
  refine Ok_of_W 10 Tryd.func33 rfl rfl rfl ?_
  have hX : Ext False w w := Bel.refl _ _
  refine W_seq ?_
  refine W_region ?_
  refine Rg_run rfl o_assignc ?_
  refine Rg_nil ?_
  refine W_seq ?_
  refine W_seq ?_
  refine W_region ?_
  refine Rg_run rfl (o_moveh (v := .pointer _) rfl) ?_
  refine Rg_run rfl (o_peq Tryd.underlying42 rfl rfl) ?_
  refine Rg_nil ?_
  refine W_cond_true rfl ?_
  refine W_seq ?_
  refine W_region ?_
  refine Rg_run rfl o_assignc ?_
  refine Rg_nil ?_
  refine W_ret ?_
  refine ⟨_, res_tmp rfl rfl, ?_⟩
  refine ⟨congrArg (Value.int .i64) ?_, hX⟩
  all_goals (rfl)

theorem tchild_nil (p : Str) (w : World) : Ok Tryd.prog 38 #[.pointer none, str p] w fun v w' => v = .slice none 0 0 ∧ Ext False w w' := by
  refine Ok_of_W 12 Tryd.func38 rfl rfl rfl ?_
  have hX : Ext False w w := Bel.refl _ _
  refine W_seq ?_
  refine W_region ?_
  refine Rg_newB rfl (o_box (v := str _) rfl) ?_
  intro b3 w1 x2 hge3 hb3
  replace hX := Bel.ex hX x2
  refine Rg_run rfl o_assignc ?_
  refine Rg_nil ?_
  refine W_seq ?_
  refine W_seq ?_
  refine W_region ?_
  refine Rg_run rfl (o_moveh (v := .pointer _) rfl) ?_
  refine Rg_run rfl (o_load1 Tryd.isAgg9 rfl (hb3.at.get 0 rfl)) ?_
  refine Rg_enter rfl (o_call2 Tryd.call36 rfl rfl) (Ok.mono (thas_nil _ _) ?_)
  rintro _ w3 ⟨rfl, x4⟩
  replace hX := Bel.ex hX x4
  replace hb3 := hb3.ext x4
  refine Rg_run rfl (o_not rfl) ?_
  refine Rg_nil ?_
  refine W_cond_true rfl ?_
  refine W_seq ?_
  refine W_region ?_
  refine Rg_run rfl o_assignc ?_
  refine Rg_nil ?_
  refine W_ret ?_
  refine ⟨_, res_tmp rfl rfl, ?_⟩
  exact ⟨rfl, hX⟩

theorem tbelow_nil (p : Str) (w : World) : Ok Tryd.prog 34 #[.pointer none, str p] w fun v w' => v = .slice none 0 0 ∧ Ext False w w' := by
  refine Ok_of_W 12 Tryd.func34 rfl rfl rfl ?_
  have hX : Ext False w w := Bel.refl _ _
  refine W_seq ?_
  refine W_region ?_
  refine Rg_newB rfl (o_box (v := str _) rfl) ?_
  intro b3 w1 x2 hge3 hb3
  replace hX := Bel.ex hX x2
  refine Rg_run rfl o_assignc ?_
  refine Rg_nil ?_
  refine W_seq ?_
  refine W_seq ?_
  refine W_region ?_
  refine Rg_run rfl (o_moveh (v := .pointer _) rfl) ?_
  refine Rg_run rfl (o_load1 Tryd.isAgg9 rfl (hb3.at.get 0 rfl)) ?_
  refine Rg_enter rfl (o_call2 Tryd.call36 rfl rfl) (Ok.mono (thas_nil _ _) ?_)
  rintro _ w3 ⟨rfl, x4⟩
  replace hX := Bel.ex hX x4
  replace hb3 := hb3.ext x4
  refine Rg_run rfl (o_not rfl) ?_
  refine Rg_nil ?_
  refine W_cond_true rfl ?_
  refine W_seq ?_
  refine W_region ?_
  refine Rg_run rfl o_assignc ?_
  refine Rg_nil ?_
  refine W_ret ?_
  refine ⟨_, res_tmp rfl rfl, ?_⟩
  exact ⟨rfl, hX⟩

theorem teq_nn (w : World) : Ok Tryd.prog 45 #[.pointer none, .pointer none] w fun v w' => v = .bool true ∧ Ext False w w' := by
  refine Ok_of_W 23 Tryd.func45 rfl rfl rfl ?_
  have hX : Ext False w w := Bel.refl _ _
  refine W_seq ?_
  refine W_region ?_
  refine Rg_run rfl o_assignc ?_
  refine Rg_nil ?_
  refine W_seq ?_
  refine W_seq ?_
  refine W_region ?_
  refine Rg_run rfl (o_moveh (v := .pointer _) rfl) ?_
  refine Rg_run rfl (o_peq Tryd.underlying42 rfl rfl) ?_
  refine Rg_run rfl (o_moveh (v := .bool _) rfl) ?_
  refine Rg_off 2 7 rfl rfl rfl rfl rfl ?_
  refine Rg_off 2 7 rfl rfl rfl rfl rfl ?_
  refine Rg_run rfl (o_pickT (v := .bool _) rfl rfl) ?_
  refine Rg_nil ?_
  refine W_cond_true rfl ?_
  refine W_seq ?_
  refine W_region ?_
  refine Rg_run rfl (o_moveh (v := .pointer _) rfl) ?_
  refine Rg_run rfl (o_moveh (v := .pointer _) rfl) ?_
  refine Rg_run rfl (o_peq Tryd.underlying42 rfl rfl) ?_
  refine Rg_run rfl (o_assignh (v := .bool _) rfl) ?_
  refine Rg_nil ?_
  refine W_ret ?_
  refine ⟨_, res_tmp rfl rfl, ?_⟩
  refine ⟨congrArg Value.bool ?_, hX⟩
  all_goals (rfl)

theorem teq_nt (b : Nat) (w : World) : Ok Tryd.prog 45 #[.pointer none, .pointer (some ⟨b, 0, none⟩)] w fun v w' => v = .bool false ∧ Ext False w w' := by
  refine Ok_of_W 23 Tryd.func45 rfl rfl rfl ?_
  have hX : Ext False w w := Bel.refl _ _
  refine W_seq ?_
  refine W_region ?_
  refine Rg_run rfl o_assignc ?_
  refine Rg_nil ?_
  refine W_seq ?_
  refine W_seq ?_
  refine W_region ?_
  refine Rg_run rfl (o_moveh (v := .pointer _) rfl) ?_
  refine Rg_run rfl (o_peq Tryd.underlying42 rfl rfl) ?_
  refine Rg_run rfl (o_moveh (v := .bool _) rfl) ?_
  refine Rg_off 2 7 rfl rfl rfl rfl rfl ?_
  refine Rg_off 2 7 rfl rfl rfl rfl rfl ?_
  refine Rg_run rfl (o_pickT (v := .bool _) rfl rfl) ?_
  refine Rg_nil ?_
  refine W_cond_true rfl ?_
  refine W_seq ?_
  refine W_region ?_
  refine Rg_run rfl (o_moveh (v := .pointer _) rfl) ?_
  refine Rg_run rfl (o_moveh (v := .pointer _) rfl) ?_
  refine Rg_run rfl (o_peqL Tryd.underlying42 rfl rfl) ?_
  refine Rg_run rfl (o_assignh (v := .bool _) rfl) ?_
  refine Rg_nil ?_
  refine W_ret ?_
  refine ⟨_, res_tmp rfl rfl, ?_⟩
  refine ⟨congrArg Value.bool ?_, hX⟩
  all_goals (rfl)

theorem teq_tn (b : Nat) (w : World) : Ok Tryd.prog 45 #[.pointer (some ⟨b, 0, none⟩), .pointer none] w fun v w' => v = .bool false ∧ Ext False w w' := by
  refine Ok_of_W 23 Tryd.func45 rfl rfl rfl ?_
  have hX : Ext False w w := Bel.refl _ _
  refine W_seq ?_
  refine W_region ?_
  refine Rg_run rfl o_assignc ?_
  refine Rg_nil ?_
  refine W_seq ?_
  refine W_seq ?_
  refine W_region ?_
  refine Rg_run rfl (o_moveh (v := .pointer _) rfl) ?_
  refine Rg_run rfl (o_peq Tryd.underlying42 rfl rfl) ?_
  refine Rg_run rfl (o_moveh (v := .bool _) rfl) ?_
  refine Rg_on 2 7 rfl rfl ?_
  refine Rg_run rfl (o_moveh (v := .pointer _) rfl) ?_
  refine Rg_on 2 7 rfl rfl ?_
  refine Rg_run rfl (o_peq Tryd.underlying42 rfl rfl) ?_
  refine Rg_run rfl (o_pickF (v := .bool _) rfl rfl) ?_
  refine Rg_nil ?_
  refine W_cond_true rfl ?_
  refine W_seq ?_
  refine W_region ?_
  refine Rg_run rfl (o_moveh (v := .pointer _) rfl) ?_
  refine Rg_run rfl (o_moveh (v := .pointer _) rfl) ?_
  refine Rg_run rfl (o_peq Tryd.underlying42 rfl rfl) ?_
  refine Rg_run rfl (o_assignh (v := .bool _) rfl) ?_
  refine Rg_nil ?_
  refine W_ret ?_
  refine ⟨_, res_tmp rfl rfl, ?_⟩
  refine ⟨congrArg Value.bool ?_, hX⟩
  all_goals (rfl)

end Go.Proofs.YtnhbdlllkmnpfaaDoor
