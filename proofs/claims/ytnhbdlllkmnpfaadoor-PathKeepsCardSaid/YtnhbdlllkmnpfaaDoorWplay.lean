/- Walks, printed by program: each theorem says what a function of the translation returns. -/
import Derived.Test.YtnhbdlllkmnpfaaDoorWlaw7a
import Derived.Test.YtnhbdlllkmnpfaaDoorPure7b
namespace Go.Proofs.YtnhbdlllkmnpfaaDoor
open Go Go.Lx Go.RowKit
set_option maxRecDepth 100000
set_option linter.unusedVariables false
set_option linter.unusedSimpArgs false
set_option linter.unnecessarySimpa false
theorem el_op : ElT Tryd.prog 41 55 3 48 (.agg #[.bool false, .slice none 0 0, .string ⟨#[]⟩]) := ⟨Tryd.underlying41, ⟨Tryd.t55, by kernel_rfl, rfl, rfl, rfl⟩, rfl, by decide, by decide⟩
theorem of_ok (w : World) (x : OpV) (hx : Sl encB 1 (Lt w.heap.size) w x.a x.c x.path) : Ok Tryd.prog 44 #[.agg (encO x).toArray] w fun v w' => v = str (x.of) ∧ Ext False w w' := by
  refine Ok_of_W 12 Tryd.func44 rfl rfl rfl ?_
  have hX : Ext False w w := Bel.refl _ _
  refine W_seq ?_
  refine W_region ?_
  refine Rg_newB rfl (o_box (v := .agg _) rfl) ?_
  intro b1 w1 x2 hge1 hb1
  change Box _ _ _ (encO _) at hb1
  replace hX := Bel.ex hX x2
  replace hx := hx.ext x2
  refine Rg_run rfl o_assignc ?_
  refine Rg_nil ?_
  refine W_seq ?_
  refine W_seq ?_
  refine W_region ?_
  refine Rg_run rfl (o_fa Tryd.underlying55 rfl Tryd.sizeOf9 rfl) ?_
  refine Rg_run rfl (o_load1 Tryd.isAgg9 rfl (hb1.at.get 2 rfl)) ?_
  refine Rg_run rfl (o_sneq rfl rfl) ?_
  refine Rg_nil ?_
  refine W_cond rfl (fun hc1 => ?_) (fun hc1 => ?_)
  · skip
    refine W_seq ?_
    refine W_region ?_
    refine Rg_run rfl (o_fa Tryd.underlying55 rfl Tryd.sizeOf9 rfl) ?_
    refine Rg_run rfl (o_load1 Tryd.isAgg9 rfl (hb1.at.get 2 rfl)) ?_
    refine Rg_enter rfl (o_call1 Tryd.call14 rfl) (Ok.mono (cut7_ok (False) _ _) ?_)
    rintro _ w3 ⟨rfl, x4⟩
    replace hX := Bel.ex hX x4
    replace hx := hx.ext x4
    replace hb1 := hb1.ext x4
    refine Rg_run rfl (o_assignh (v := str _) rfl) ?_
    refine Rg_nil ?_
    refine W_ret ?_
    refine ⟨_, res_tmp rfl rfl, ?_⟩
    refine ⟨congrArg str ?_, hX⟩
    all_goals (exact (OpV.of_a hc1).symm)
  · skip
    refine W_skip ?_
    refine W_seq ?_
    refine W_region ?_
    refine Rg_run rfl (o_fa Tryd.underlying55 rfl Tryd.sizeOf30 rfl) ?_
    refine Rg_run rfl (o_load1 Tryd.isAgg30 rfl (hb1.at.get 1 rfl)) ?_
    refine Rg_enter rfl (o_call1 Tryd.call22 rfl) (Ok.mono (r7make_ok _ _ _ hx.trd) ?_)
    rintro _ w5 ⟨rfl, x6⟩
    replace hX := Bel.ex hX x6
    replace hx := hx.ext x6
    replace hb1 := hb1.ext x6
    refine Rg_run rfl (o_assignh (v := str _) rfl) ?_
    refine Rg_nil ?_
    refine W_ret ?_
    refine ⟨_, res_tmp rfl rfl, ?_⟩
    refine ⟨congrArg str ?_, hX⟩
    all_goals (exact (OpV.of_b hc1).symm)

theorem tadd_no (w : World) (bt mt : Nat) (t : List Str) (hbt : At w bt 0 [.map (some mt)]) (hmt : Ms w mt t) (p : Str) (hp : p.length ≤ 1000000) (hv : splitOk p = false) : Ok Tryd.prog 43 #[.pointer (some ⟨bt, 0, none⟩), str p] w fun v w' => v = .tuple #[.pointer none, .int .i64 6] ∧ Ext False w w' := by
  have hlbt := hbt.lt; have hlmt := hmt.lt
  refine Ok_of_W 34 Tryd.func43 rfl rfl rfl ?_
  have hX : Ext False w w := Bel.refl _ _
  refine W_seq ?_
  refine W_region ?_
  refine Rg_run rfl o_assignc ?_
  refine Rg_run rfl o_assignc ?_
  refine Rg_nil ?_
  refine W_seq ?_
  refine W_seq ?_
  refine W_region ?_
  refine Rg_run rfl (o_moveh (v := .pointer _) rfl) ?_
  refine Rg_run rfl (o_peq Tryd.underlying42 rfl rfl) ?_
  refine Rg_nil ?_
  refine W_cond_false rfl ?_
  refine W_skip ?_
  refine W_seq ?_
  refine W_seq ?_
  refine W_region ?_
  refine Rg_run rfl (o_moveh (v := str _) rfl) ?_
  refine Rg_enter rfl (o_call1 Tryd.call26 rfl) (Ok.mono (pvalid_ok (False) _ (by first | assumption | omega | (simp; done) | (simp; omega) | (simp at *; omega)) _) ?_)
  rintro _ w1 ⟨rfl, x2⟩
  have z3 := Bel.size x2
  replace hX := Bel.ex hX x2
  replace hbt := hbt.ext x2
  replace hmt := hmt.ext x2
  refine Rg_run rfl (o_not rfl) ?_
  refine Rg_nil ?_
  refine W_cond_true (congrArg Value.bool (by rw [hv]; rfl)) ?_
  refine W_seq ?_
  refine W_region ?_
  refine Rg_run rfl o_assignc ?_
  refine Rg_run rfl o_assignc ?_
  refine Rg_nil ?_
  refine W_ret ?_
  refine ⟨_, res_tmp2 rfl rfl rfl, ?_⟩
  exact ⟨rfl, hX⟩

theorem play_ok (w : World) (vl : Value) (l : List OpV) (hl : Rd encO 3 (Lt w.heap.size) w vl l) (dl : ∀ z ∈ l, Sl encB 1 (Lt w.heap.size) w z.a z.c z.path) : Ok Tryd.prog 32 #[vl] w fun v w' => ∃ b m t a c want, v = .tuple #[.pointer (some ⟨b, 0, none⟩), .slice a want.length c] ∧ b < w'.heap.size ∧ m < w'.heap.size ∧ At w' b 0 [.map (some m)] ∧ Ms w' m t ∧ Sl encS 1 (Lt w'.heap.size) w' a c want ∧ Tr t want ∧ t.length ≤ 127 ∧ Ext False w w' := by
  obtain ⟨al, cl, rfl, hl⟩ := hl; have ml := hl.len
  refine Ok_of_W 70 Tryd.func32 rfl rfl rfl ?_
  have hX : Ext False w w := Bel.refl _ _
  refine W_seq ?_
  refine W_region ?_
  refine Rg_run rfl o_assignc ?_
  refine Rg_run rfl o_assignc ?_
  refine Rg_nil ?_
  refine W_seq ?_
  refine W_region ?_
  refine Rg_enter rfl (o_call0 Tryd.call46) (Ok.mono (tnew_ok _) ?_)
  rintro _ w1 ⟨tb13, tm13, rfl, hgb13, hlb13, hgm13, hlm13, hne13, hbt13, hmt13, x2⟩
  have z3 := Bel.size x2
  replace hX := Bel.ex hX x2
  replace dl := (fun z hz => (dl z hz).ext x2)
  replace hl := hl.ext x2
  refine Rg_bs (vs := [str _]) ([[47]]) rfl encS_ok el_string rfl rfl ⟨rfl, trivial⟩ rfl rfl rfl rfl ?_
  intro a14 w4 x5 hown14
  have z6 := Bel.size x5
  replace hX := Bel.ex hX x5
  replace dl := (fun z hz => (dl z hz).ext x5)
  replace hl := hl.ext x5
  replace hbt13 := hbt13.ext x5
  replace hmt13 := hmt13.ext x5
  replace hown14 := hown14.mono (D' := fun g => w.heap.size ≤ g) (fun g h1 h2 => by omega)
  refine Rg_run rfl (o_assignh (v := .pointer _) rfl) ?_
  refine Rg_run rfl (o_assignh (v := .slice _ _ _) rfl) ?_
  refine Rg_nil ?_
  refine W_seq ?_
  refine W_seq ?_
  refine W_region ?_
  refine Rg_run rfl (o_moveh (v := .slice _ _ _) rfl) ?_
  refine Rg_run rfl (o_moveh (v := .slice _ _ _) rfl) ?_
  refine Rg_run rfl (o_llen Tryd.underlying41 rfl) ?_
  refine Rg_run rfl (o_minN (a := l.length) (b := 14) rfl rfl) ?_
  refine Rg_run rfl (o_slto (j := (l.take 14).length) Tryd.underlying41 Tryd.sizeOf55 rfl (congrArg (Value.int .i64) (by rw [List.length_take]; omega)) (by have := hl.le; rw [List.length_take]; omega)) ?_
  have hlt : Sl encO 3 (Lt w.heap.size) w4 al cl (l.take 14) := hl.take 14
  refine Rg_run rfl (o_llen Tryd.underlying41 rfl) ?_
  refine Rg_run rfl o_movec ?_
  refine Rg_nil ?_
  refine W_block ?_
  refine W_for (α := Nat × Nat × Nat × List Str × Value × List Str) [(2, 5), (7, 12), (21, 67)] (fun q => [(21, .int .i64 (q.1 : Int)), (4, .pointer (some ⟨q.2.1, 0, none⟩)), (5, q.2.2.2.2.1)]) (fun q w' => (q.1 ≤ (l.take 14).length ∧ Tr q.2.2.2.1 q.2.2.2.2.2 ∧ q.2.2.2.1.length ≤ 1 + 9 * q.1) ∧ Ext False w4 w' ∧ (At w' q.2.1 0 [.map (some q.2.2.1)] ∧ Ms w' q.2.2.1 q.2.2.2.1 ∧ Rd encS 1 (Lt w'.heap.size) w' q.2.2.2.2.1 q.2.2.2.2.2)) (fun q => (l.take 14).length - q.1) (0, tb13, tm13, [[47]], _, [[47]]) ⟨rfl, rfl, rfl, trivial⟩ ⟨⟨Nat.zero_le _, Tr.start, by simp⟩, Bel.refl _ _, ⟨hbt13, hmt13, hown14.trd encS_ok⟩⟩ ?_
  rintro ⟨k, b, m, t, wv, want⟩ fb9 w8 ⟨⟨hk, hTr, hln⟩, hXL7, ⟨hbt, hmt, hw⟩⟩
  dsimp only at *
  have z10 := Bel.size hXL7
  replace hX := Bel.ex hX hXL7
  replace dl := (fun z hz => (dl z hz).ext hXL7)
  replace hl := hl.ext hXL7
  replace hbt13 := hbt13.ext hXL7
  replace hmt13 := hmt13.ext hXL7
  replace hown14 := hown14.ext hXL7
  replace hlt := hlt.ext hXL7
  have h14 : (l.take 14).length ≤ 14 := by rw [List.length_take]; omega
  have nt : t.length ≤ 1000000 := by omega
  have ot := hTr.okl
  refine W_seq ?_
  refine W_region ?_
  refine Rg_run rfl (o_lss rfl rfl) ?_
  refine Rg_nil ?_
  refine W_seq ?_
  refine W_cond rfl (fun hc1 => ?_) (fun hc1 => ?_)
  · skip
    replace hc1 := of_decide_eq_true hc1
    refine W_skip ?_
    refine W_seq ?_
    refine W_block ?_
    refine W_seq ?_
    refine W_region ?_
    refine Rg_run rfl (o_iaR Tryd.underlying41 Tryd.sizeOf55 hlt rfl rfl (by first | omega | (unfold I64; omega) | (simp; done) | (simp; omega) | (simp at *; omega))) ?_
    refine Rg_run rfl (o_ldRS Tryd.isAgg55 Tryd.sizeOf55 hlt rfl (getE oz (by omega))) ?_
    refine Rg_alst rfl rfl Tryd.zeroValue55 rfl Tryd.sizeOf55 (fun _ => rfl) rfl rfl ?_
    intro b7 w11 x12 hge7 hb7
    have hlt7 := hb7.lt
    change Box _ _ _ (encO _) at hb7
    have z13 := Bel.size x12
    replace hX := Bel.ex hX x12
    replace hXL7 := Bel.ex hXL7 x12
    replace dl := (fun z hz => (dl z hz).ext x12)
    replace hl := hl.ext x12
    replace hbt13 := hbt13.ext x12
    replace hmt13 := hmt13.ext x12
    replace hown14 := hown14.ext x12
    replace hlt := hlt.ext x12
    replace hbt := hbt.ext x12
    replace hmt := hmt.ext x12
    replace hw := hw.ext x12
    refine Rg_nil ?_
    refine W_seq ?_
    refine W_region ?_
    refine Rg_run rfl (o_loadS Tryd.isAgg55 Tryd.sizeOf55 rfl hb7.at rfl) ?_
    refine Rg_enter rfl (o_call1 Tryd.call44 rfl) (Ok.mono (of_ok _ _ (dl _ (List.mem_of_mem_take (getD_mem (by omega)))).top) ?_)
    rintro _ w14 ⟨rfl, x15⟩
    have z16 := Bel.size x15
    replace hX := Bel.ex hX x15
    replace hXL7 := Bel.ex hXL7 x15
    replace dl := (fun z hz => (dl z hz).ext x15)
    replace hl := hl.ext x15
    replace hbt13 := hbt13.ext x15
    replace hmt13 := hmt13.ext x15
    replace hown14 := hown14.ext x15
    replace hlt := hlt.ext x15
    replace hbt := hbt.ext x15
    replace hmt := hmt.ext x15
    replace hw := hw.ext x15
    replace hb7 := hb7.ext x15
    have lp := of_len ((l.take 14).getD k oz); generalize ((l.take 14).getD k oz).of = p at lp ⊢
    refine Rg_run rfl (o_assignh (v := str _) rfl) ?_
    refine Rg_nil ?_
    refine W_seq ?_
    refine W_region ?_
    refine Rg_run rfl o_assignc ?_
    refine Rg_nil ?_
    refine W_seq ?_
    refine W_region ?_
    refine Rg_run rfl o_assignc ?_
    refine Rg_nil ?_
    refine W_seq ?_
    refine W_region ?_
    refine Rg_run rfl o_assignc ?_
    refine Rg_nil ?_
    refine W_seq ?_
    refine W_region ?_
    refine Rg_run rfl o_assignc ?_
    refine Rg_nil ?_
    refine W_seq ?_
    refine W_seq ?_
    refine W_region ?_
    refine Rg_run rfl (o_fa Tryd.underlying55 rfl Tryd.sizeOf4 rfl) ?_
    refine Rg_run rfl (o_load1 Tryd.isAgg4 rfl (hb7.at.get 0 rfl)) ?_
    refine Rg_nil ?_
    refine W_cond rfl (fun hc2 => ?_) (fun hc2 => ?_)
    · skip
      refine W_seq ?_
      refine W_region ?_
      refine Rg_run rfl (o_moveh (v := .pointer _) rfl) ?_
      refine Rg_run rfl (o_moveh (v := str _) rfl) ?_
      refine (Decidable.em (remE t p = 0)).elim (fun hr => ?_) (fun hr => ?_)
      · skip
        refine Rg_enter rfl (o_call2 Tryd.call42 rfl rfl) (Ok.mono (trem_ok _ _ _ _ hbt hmt nt ot _ lp hr) ?_)
        rintro _ w17 ⟨tb32, tm32, rfl, hgb32, hlb32, hgm32, hlm32, hne32, hbt32, hmt32, x18⟩
        have z19 := Bel.size x18
        replace hX := Bel.ex hX x18
        replace hXL7 := Bel.ex hXL7 x18
        replace dl := (fun z hz => (dl z hz).ext x18)
        replace hl := hl.ext x18
        replace hbt13 := hbt13.ext x18
        replace hmt13 := hmt13.ext x18
        replace hown14 := hown14.ext x18
        replace hlt := hlt.ext x18
        replace hbt := hbt.ext x18
        replace hmt := hmt.ext x18
        replace hw := hw.ext x18
        replace hb7 := hb7.ext x18
        refine Rg_run rfl (o_moveh (v := .tuple _) rfl) ?_
        refine Rg_run rfl (o_extract rfl rfl) ?_
        refine Rg_run rfl (o_extract rfl rfl) ?_
        refine Rg_run rfl (o_assignh (v := .pointer _) rfl) ?_
        refine Rg_run rfl (o_assignh (v := .int _ _) rfl) ?_
        refine Rg_nil ?_
        refine W_region ?_
        refine Rg_run rfl (o_moveh (v := wv) rfl) ?_
        refine Rg_run rfl (o_moveh (v := str _) rfl) ?_
        refine Rg_enter rfl (o_call2 Tryd.call62 rfl rfl) (Ok.mono (r7rem_ok _ _ _ hw.top (by have := hTr.len; omega) hTr.lokl _ lp) ?_)
        rintro _ w20 ⟨a38, c38, rfl, hs38, x21⟩
        have z22 := Bel.size x21
        replace hX := Bel.ex hX x21
        replace hXL7 := Bel.ex hXL7 x21
        replace dl := (fun z hz => (dl z hz).ext x21)
        replace hl := hl.ext x21
        replace hbt13 := hbt13.ext x21
        replace hmt13 := hmt13.ext x21
        replace hown14 := hown14.ext x21
        replace hlt := hlt.ext x21
        replace hbt := hbt.ext x21
        replace hmt := hmt.ext x21
        replace hw := hw.ext x21
        replace hb7 := hb7.ext x21
        replace hbt32 := hbt32.ext x21
        replace hmt32 := hmt32.ext x21
        refine Rg_run rfl (o_moveh (v := .tuple _) rfl) ?_
        refine Rg_run rfl (o_extract rfl rfl) ?_
        refine Rg_run rfl (o_extract rfl rfl) ?_
        refine Rg_run rfl (o_assignh (v := .slice _ _ _) rfl) ?_
        refine Rg_run rfl (o_assignh (v := .int _ _) rfl) ?_
        refine Rg_nil ?_
        refine W_seq ?_
        refine W_seq ?_
        refine W_region ?_
        have hb2 : (remR want p).2 = 0 := by rw [← rem_eq hTr]; exact hr
        refine Rg_run rfl (o_moveh (v := .int _ _) rfl) ?_
        refine Rg_run rfl (o_moveh (v := .int _ _) rfl) ?_
        refine Rg_run rfl (o_neq rfl rfl) ?_
        refine Rg_run rfl (o_moveh (v := .bool _) rfl) ?_
        refine Rg_may 3 56 rfl rfl rfl (fun hg => (o_moveh (v := .pointer _) rfl)) ?_
        refine Rg_may 3 56 rfl rfl rfl (fun hg => (o_peq Tryd.underlying42 (gsel (u := undef) hg) rfl)) ?_
        refine Rg_may 3 56 rfl rfl rfl (fun hg => (o_moveh (v := .int _ _) rfl)) ?_
        refine Rg_may 3 56 rfl rfl rfl (fun hg => (o_neq (gsel (u := undef) hg) rfl)) ?_
        refine Rg_may 3 56 rfl rfl rfl (fun hg => (o_bneq Tryd.underlying4 (gsel (u := undef) hg) (gsel (u := undef) hg))) ?_
        refine Rg_run rfl (o_or (u := undef) rfl rfl) ?_
        refine Rg_nil ?_
        refine W_cond_false (congrArg Value.bool (by rw [hb2]; rfl)) ?_
        refine W_skip ?_
        refine W_seq ?_
        refine W_region ?_
        refine Rg_run rfl (o_moveh (v := .int _ _) rfl) ?_
        refine Rg_run rfl (o_eql rfl rfl) ?_
        refine Rg_nil ?_
        refine W_cond_true (congrArg Value.bool (by rw [hb2]; rfl)) ?_
        refine W_region ?_
        refine Rg_run rfl (o_moveh (v := .pointer _) rfl) ?_
        refine Rg_run rfl (o_moveh (v := .slice _ _ _) rfl) ?_
        refine Rg_run rfl (o_assignh (v := .pointer _) rfl) ?_
        refine Rg_run rfl (o_assignh (v := .slice _ _ _) rfl) ?_
        refine Rg_nil ?_
        refine W_region ?_
        refine Rg_run rfl (o_add rfl rfl (by first | omega | (unfold I64; omega) | (simp; done) | (simp; omega) | (simp at *; omega))) ?_
        refine Rg_run rfl (o_moveh (v := .int _ _) rfl) ?_
        refine Rg_nil ?_
        refine ⟨(k + 1, tb32, tm32, t.filter (fun q => q != p), .slice a38 (remR want p).1.length c38, (remR want p).1), ⟨?_, ?_, ?_, trivial⟩, ?_, ⟨?_, hXL7, ?_⟩, ?_⟩
        · first | rfl | (go_num) | (exact congrArg _ (by omega))
        · first | rfl | (go_num) | (exact congrArg _ (by omega))
        · first | rfl | (go_num) | (exact congrArg _ (by omega))
        · repeat (first | exact off_refl _ _ | exact off_mix | refine off_put rfl ?_ | refine off_putN ?_ | refine off_setL rfl ?_ | refine off_mix' rfl ?_)
        · exact ⟨by show k + 1 ≤ (l.take 14).length; omega, hTr.rem hr, by have := List.length_filter_le (fun q => q != p) t; show (t.filter fun q => q != p).length ≤ 1 + 9 * (k + 1); omega⟩
        · exact ⟨hbt32, hmt32, _, _, rfl, hs38.top⟩
        · show (l.take 14).length - (k + 1) < (l.take 14).length - k; omega
      · skip
        refine Rg_enter rfl (o_call2 Tryd.call42 rfl rfl) (Ok.mono (trem_no _ _ _ _ hbt hmt nt ot _ lp hr) ?_)
        rintro _ w23 ⟨rfl, x24⟩
        have z25 := Bel.size x24
        replace hX := Bel.ex hX x24
        replace hXL7 := Bel.ex hXL7 x24
        replace dl := (fun z hz => (dl z hz).ext x24)
        replace hl := hl.ext x24
        replace hbt13 := hbt13.ext x24
        replace hmt13 := hmt13.ext x24
        replace hown14 := hown14.ext x24
        replace hlt := hlt.ext x24
        replace hbt := hbt.ext x24
        replace hmt := hmt.ext x24
        replace hw := hw.ext x24
        replace hb7 := hb7.ext x24
        refine Rg_run rfl (o_moveh (v := .tuple _) rfl) ?_
        refine Rg_run rfl (o_extract rfl rfl) ?_
        refine Rg_run rfl (o_extract rfl rfl) ?_
        refine Rg_run rfl (o_assignh (v := .pointer _) rfl) ?_
        refine Rg_run rfl (o_assignh (v := .int _ _) rfl) ?_
        refine Rg_nil ?_
        refine W_region ?_
        refine Rg_run rfl (o_moveh (v := wv) rfl) ?_
        refine Rg_run rfl (o_moveh (v := str _) rfl) ?_
        refine Rg_enter rfl (o_call2 Tryd.call62 rfl rfl) (Ok.mono (r7rem_ok _ _ _ hw.top (by have := hTr.len; omega) hTr.lokl _ lp) ?_)
        rintro _ w26 ⟨a38, c38, rfl, hs38, x27⟩
        have z28 := Bel.size x27
        replace hX := Bel.ex hX x27
        replace hXL7 := Bel.ex hXL7 x27
        replace dl := (fun z hz => (dl z hz).ext x27)
        replace hl := hl.ext x27
        replace hbt13 := hbt13.ext x27
        replace hmt13 := hmt13.ext x27
        replace hown14 := hown14.ext x27
        replace hlt := hlt.ext x27
        replace hbt := hbt.ext x27
        replace hmt := hmt.ext x27
        replace hw := hw.ext x27
        replace hb7 := hb7.ext x27
        refine Rg_run rfl (o_moveh (v := .tuple _) rfl) ?_
        refine Rg_run rfl (o_extract rfl rfl) ?_
        refine Rg_run rfl (o_extract rfl rfl) ?_
        refine Rg_run rfl (o_assignh (v := .slice _ _ _) rfl) ?_
        refine Rg_run rfl (o_assignh (v := .int _ _) rfl) ?_
        refine Rg_nil ?_
        refine W_seq ?_
        refine W_seq ?_
        refine W_region ?_
        have hb2 : (remR want p).2 = remE t p := (rem_eq hTr p).symm
        refine Rg_run rfl (o_moveh (v := .int _ _) rfl) ?_
        refine Rg_run rfl (o_moveh (v := .int _ _) rfl) ?_
        refine Rg_run rfl (o_neq rfl rfl) ?_
        refine Rg_run rfl (o_moveh (v := .bool _) rfl) ?_
        refine Rg_may 3 56 rfl rfl rfl (fun hg => (o_moveh (v := .pointer _) rfl)) ?_
        refine Rg_may 3 56 rfl rfl rfl (fun hg => (o_peq Tryd.underlying42 (gsel (u := undef) hg) rfl)) ?_
        refine Rg_may 3 56 rfl rfl rfl (fun hg => (o_moveh (v := .int _ _) rfl)) ?_
        refine Rg_may 3 56 rfl rfl rfl (fun hg => (o_neq (gsel (u := undef) hg) rfl)) ?_
        refine Rg_may 3 56 rfl rfl rfl (fun hg => (o_bneq Tryd.underlying4 (gsel (u := undef) hg) (gsel (u := undef) hg))) ?_
        refine Rg_run rfl (o_or (u := undef) rfl rfl) ?_
        refine Rg_nil ?_
        refine W_cond_false (congrArg Value.bool (by rw [hb2]; simp [hr])) ?_
        refine W_skip ?_
        refine W_seq ?_
        refine W_region ?_
        refine Rg_run rfl (o_moveh (v := .int _ _) rfl) ?_
        refine Rg_run rfl (o_eql rfl rfl) ?_
        refine Rg_nil ?_
        refine W_cond_false (congrArg Value.bool (by rw [hb2]; simpa using hr)) ?_
        refine W_skip ?_
        refine W_region ?_
        refine Rg_run rfl (o_add rfl rfl (by first | omega | (unfold I64; omega) | (simp; done) | (simp; omega) | (simp at *; omega))) ?_
        refine Rg_run rfl (o_moveh (v := .int _ _) rfl) ?_
        refine Rg_nil ?_
        refine ⟨(k + 1, b, m, t, wv, want), ⟨?_, ?_, ?_, trivial⟩, ?_, ⟨?_, hXL7, ?_⟩, ?_⟩
        · first | rfl | (go_num) | (exact congrArg _ (by omega))
        · first | rfl | (go_num) | (exact congrArg _ (by omega))
        · first | rfl | (go_num) | (exact congrArg _ (by omega))
        · repeat (first | exact off_refl _ _ | exact off_mix | refine off_put rfl ?_ | refine off_putN ?_ | refine off_setL rfl ?_ | refine off_mix' rfl ?_)
        · exact ⟨by show k + 1 ≤ (l.take 14).length; omega, hTr, by show t.length ≤ 1 + 9 * (k + 1); omega⟩
        · exact ⟨hbt, hmt, hw.top⟩
        · show (l.take 14).length - (k + 1) < (l.take 14).length - k; omega
    · skip
      refine W_seq ?_
      refine W_region ?_
      refine Rg_run rfl (o_moveh (v := .pointer _) rfl) ?_
      refine Rg_run rfl (o_moveh (v := str _) rfl) ?_
      refine (Decidable.em (splitOk p = true)).elim (fun hv => ?_) (fun hv => ?_)
      · skip
        refine Rg_enter rfl (o_call2 Tryd.call43 rfl rfl) (Ok.mono (tadd_ok _ _ _ _ hbt hmt _ lp hv) ?_)
        rintro _ w29 ⟨tb44, tm44, rfl, hgb44, hlb44, hgm44, hlm44, hne44, hbt44, hmt44, x30⟩
        have z31 := Bel.size x30
        replace hX := Bel.ex hX x30
        replace hXL7 := Bel.ex hXL7 x30
        replace dl := (fun z hz => (dl z hz).ext x30)
        replace hl := hl.ext x30
        replace hbt13 := hbt13.ext x30
        replace hmt13 := hmt13.ext x30
        replace hown14 := hown14.ext x30
        replace hlt := hlt.ext x30
        replace hbt := hbt.ext x30
        replace hmt := hmt.ext x30
        replace hw := hw.ext x30
        replace hb7 := hb7.ext x30
        refine Rg_run rfl (o_moveh (v := .tuple _) rfl) ?_
        refine Rg_run rfl (o_extract rfl rfl) ?_
        refine Rg_run rfl (o_extract rfl rfl) ?_
        refine Rg_run rfl (o_assignh (v := .pointer _) rfl) ?_
        refine Rg_run rfl (o_assignh (v := .int _ _) rfl) ?_
        refine Rg_nil ?_
        refine W_region ?_
        refine Rg_run rfl (o_moveh (v := wv) rfl) ?_
        refine Rg_run rfl (o_moveh (v := str _) rfl) ?_
        refine Rg_enter rfl (o_call2 Tryd.call63 rfl rfl) (Ok.mono (r7add_ok _ _ _ hw.top (by have := hTr.len; omega) hTr.lokl _ lp) ?_)
        rintro _ w32 ⟨a50, c50, rfl, hs50, x33⟩
        have z34 := Bel.size x33
        replace hX := Bel.ex hX x33
        replace hXL7 := Bel.ex hXL7 x33
        replace dl := (fun z hz => (dl z hz).ext x33)
        replace hl := hl.ext x33
        replace hbt13 := hbt13.ext x33
        replace hmt13 := hmt13.ext x33
        replace hown14 := hown14.ext x33
        replace hlt := hlt.ext x33
        replace hbt := hbt.ext x33
        replace hmt := hmt.ext x33
        replace hw := hw.ext x33
        replace hb7 := hb7.ext x33
        replace hbt44 := hbt44.ext x33
        replace hmt44 := hmt44.ext x33
        refine Rg_run rfl (o_moveh (v := .tuple _) rfl) ?_
        refine Rg_run rfl (o_extract rfl rfl) ?_
        refine Rg_run rfl (o_extract rfl rfl) ?_
        refine Rg_run rfl (o_assignh (v := .slice _ _ _) rfl) ?_
        refine Rg_run rfl (o_assignh (v := .int _ _) rfl) ?_
        refine Rg_nil ?_
        refine W_seq ?_
        refine W_seq ?_
        refine W_region ?_
        have hb2 : (addR want p).2 = 0 := by rw [addR_b hv]
        refine Rg_run rfl (o_moveh (v := .int _ _) rfl) ?_
        refine Rg_run rfl (o_moveh (v := .int _ _) rfl) ?_
        refine Rg_run rfl (o_neq rfl rfl) ?_
        refine Rg_run rfl (o_moveh (v := .bool _) rfl) ?_
        refine Rg_may 3 56 rfl rfl rfl (fun hg => (o_moveh (v := .pointer _) rfl)) ?_
        refine Rg_may 3 56 rfl rfl rfl (fun hg => (o_peq Tryd.underlying42 (gsel (u := undef) hg) rfl)) ?_
        refine Rg_may 3 56 rfl rfl rfl (fun hg => (o_moveh (v := .int _ _) rfl)) ?_
        refine Rg_may 3 56 rfl rfl rfl (fun hg => (o_neq (gsel (u := undef) hg) rfl)) ?_
        refine Rg_may 3 56 rfl rfl rfl (fun hg => (o_bneq Tryd.underlying4 (gsel (u := undef) hg) (gsel (u := undef) hg))) ?_
        refine Rg_run rfl (o_or (u := undef) rfl rfl) ?_
        refine Rg_nil ?_
        refine W_cond_false (congrArg Value.bool (by rw [hb2]; rfl)) ?_
        refine W_skip ?_
        refine W_seq ?_
        refine W_region ?_
        refine Rg_run rfl (o_moveh (v := .int _ _) rfl) ?_
        refine Rg_run rfl (o_eql rfl rfl) ?_
        refine Rg_nil ?_
        refine W_cond_true (congrArg Value.bool (by rw [hb2]; rfl)) ?_
        refine W_region ?_
        refine Rg_run rfl (o_moveh (v := .pointer _) rfl) ?_
        refine Rg_run rfl (o_moveh (v := .slice _ _ _) rfl) ?_
        refine Rg_run rfl (o_assignh (v := .pointer _) rfl) ?_
        refine Rg_run rfl (o_assignh (v := .slice _ _ _) rfl) ?_
        refine Rg_nil ?_
        refine W_region ?_
        refine Rg_run rfl (o_add rfl rfl (by first | omega | (unfold I64; omega) | (simp; done) | (simp; omega) | (simp at *; omega))) ?_
        refine Rg_run rfl (o_moveh (v := .int _ _) rfl) ?_
        refine Rg_nil ?_
        refine ⟨(k + 1, tb44, tm44, addT t p, .slice a50 (addR want p).1.length c50, (addR want p).1), ⟨?_, ?_, ?_, trivial⟩, ?_, ⟨?_, hXL7, ?_⟩, ?_⟩
        · first | rfl | (go_num) | (exact congrArg _ (by omega))
        · first | rfl | (go_num) | (exact congrArg _ (by omega))
        · first | rfl | (go_num) | (exact congrArg _ (by omega))
        · repeat (first | exact off_refl _ _ | exact off_mix | refine off_put rfl ?_ | refine off_putN ?_ | refine off_setL rfl ?_ | refine off_mix' rfl ?_)
        · exact ⟨by show k + 1 ≤ (l.take 14).length; omega, hTr.add hv, by have := addT_len t p; show (addT t p).length ≤ 1 + 9 * (k + 1); omega⟩
        · exact ⟨hbt44, hmt44, _, _, rfl, hs50.top⟩
        · show (l.take 14).length - (k + 1) < (l.take 14).length - k; omega
      · skip
        refine Rg_enter rfl (o_call2 Tryd.call43 rfl rfl) (Ok.mono (tadd_no _ _ _ _ hbt hmt _ lp (by simpa using hv)) ?_)
        rintro _ w35 ⟨rfl, x36⟩
        have z37 := Bel.size x36
        replace hX := Bel.ex hX x36
        replace hXL7 := Bel.ex hXL7 x36
        replace dl := (fun z hz => (dl z hz).ext x36)
        replace hl := hl.ext x36
        replace hbt13 := hbt13.ext x36
        replace hmt13 := hmt13.ext x36
        replace hown14 := hown14.ext x36
        replace hlt := hlt.ext x36
        replace hbt := hbt.ext x36
        replace hmt := hmt.ext x36
        replace hw := hw.ext x36
        replace hb7 := hb7.ext x36
        refine Rg_run rfl (o_moveh (v := .tuple _) rfl) ?_
        refine Rg_run rfl (o_extract rfl rfl) ?_
        refine Rg_run rfl (o_extract rfl rfl) ?_
        refine Rg_run rfl (o_assignh (v := .pointer _) rfl) ?_
        refine Rg_run rfl (o_assignh (v := .int _ _) rfl) ?_
        refine Rg_nil ?_
        refine W_region ?_
        refine Rg_run rfl (o_moveh (v := wv) rfl) ?_
        refine Rg_run rfl (o_moveh (v := str _) rfl) ?_
        refine Rg_enter rfl (o_call2 Tryd.call63 rfl rfl) (Ok.mono (r7add_ok _ _ _ hw.top (by have := hTr.len; omega) hTr.lokl _ lp) ?_)
        rintro _ w38 ⟨a50, c50, rfl, hs50, x39⟩
        have z40 := Bel.size x39
        replace hX := Bel.ex hX x39
        replace hXL7 := Bel.ex hXL7 x39
        replace dl := (fun z hz => (dl z hz).ext x39)
        replace hl := hl.ext x39
        replace hbt13 := hbt13.ext x39
        replace hmt13 := hmt13.ext x39
        replace hown14 := hown14.ext x39
        replace hlt := hlt.ext x39
        replace hbt := hbt.ext x39
        replace hmt := hmt.ext x39
        replace hw := hw.ext x39
        replace hb7 := hb7.ext x39
        refine Rg_run rfl (o_moveh (v := .tuple _) rfl) ?_
        refine Rg_run rfl (o_extract rfl rfl) ?_
        refine Rg_run rfl (o_extract rfl rfl) ?_
        refine Rg_run rfl (o_assignh (v := .slice _ _ _) rfl) ?_
        refine Rg_run rfl (o_assignh (v := .int _ _) rfl) ?_
        refine Rg_nil ?_
        refine W_seq ?_
        refine W_seq ?_
        refine W_region ?_
        have hb2 : (addR want p).2 = 6 := by rw [addR_a (by simpa using hv)]
        refine Rg_run rfl (o_moveh (v := .int _ _) rfl) ?_
        refine Rg_run rfl (o_moveh (v := .int _ _) rfl) ?_
        refine Rg_run rfl (o_neq rfl rfl) ?_
        refine Rg_run rfl (o_moveh (v := .bool _) rfl) ?_
        refine Rg_may 3 56 rfl rfl rfl (fun hg => (o_moveh (v := .pointer _) rfl)) ?_
        refine Rg_may 3 56 rfl rfl rfl (fun hg => (o_peq Tryd.underlying42 (gsel (u := undef) hg) rfl)) ?_
        refine Rg_may 3 56 rfl rfl rfl (fun hg => (o_moveh (v := .int _ _) rfl)) ?_
        refine Rg_may 3 56 rfl rfl rfl (fun hg => (o_neq (gsel (u := undef) hg) rfl)) ?_
        refine Rg_may 3 56 rfl rfl rfl (fun hg => (o_bneq Tryd.underlying4 (gsel (u := undef) hg) (gsel (u := undef) hg))) ?_
        refine Rg_run rfl (o_or (u := undef) rfl rfl) ?_
        refine Rg_nil ?_
        refine W_cond_false (congrArg Value.bool (by rw [hb2]; rfl)) ?_
        refine W_skip ?_
        refine W_seq ?_
        refine W_region ?_
        refine Rg_run rfl (o_moveh (v := .int _ _) rfl) ?_
        refine Rg_run rfl (o_eql rfl rfl) ?_
        refine Rg_nil ?_
        refine W_cond_false (congrArg Value.bool (by rw [hb2]; rfl)) ?_
        refine W_skip ?_
        refine W_region ?_
        refine Rg_run rfl (o_add rfl rfl (by first | omega | (unfold I64; omega) | (simp; done) | (simp; omega) | (simp at *; omega))) ?_
        refine Rg_run rfl (o_moveh (v := .int _ _) rfl) ?_
        refine Rg_nil ?_
        refine ⟨(k + 1, b, m, t, wv, want), ⟨?_, ?_, ?_, trivial⟩, ?_, ⟨?_, hXL7, ?_⟩, ?_⟩
        · first | rfl | (go_num) | (exact congrArg _ (by omega))
        · first | rfl | (go_num) | (exact congrArg _ (by omega))
        · first | rfl | (go_num) | (exact congrArg _ (by omega))
        · repeat (first | exact off_refl _ _ | exact off_mix | refine off_put rfl ?_ | refine off_putN ?_ | refine off_setL rfl ?_ | refine off_mix' rfl ?_)
        · exact ⟨by show k + 1 ≤ (l.take 14).length; omega, hTr, by show t.length ≤ 1 + 9 * (k + 1); omega⟩
        · exact ⟨hbt, hmt, hw.top⟩
        · show (l.take 14).length - (k + 1) < (l.take 14).length - k; omega
  · skip
    replace hc1 := of_decide_eq_false hc1
    refine W_exit ?_
    refine exAt_hit ?_
    refine W_seq ?_
    refine W_region ?_
    refine Rg_run rfl (o_moveh (v := .pointer _) rfl) ?_
    refine Rg_run rfl (o_moveh (v := wv) rfl) ?_
    refine Rg_run rfl (o_assignh (v := .pointer _) rfl) ?_
    refine Rg_run rfl (o_assignh (v := wv) rfl) ?_
    refine Rg_nil ?_
    refine W_ret ?_
    refine ⟨_, res_tmp2 rfl rfl rfl, ?_⟩
    obtain ⟨aw, cw, rfl, hsw⟩ := hw
    exact ⟨_, _, _, _, _, _, rfl, hbt.lt, hmt.lt, hbt, hmt, hsw.top, hTr, by omega, hX⟩

end Go.Proofs.YtnhbdlllkmnpfaaDoor
