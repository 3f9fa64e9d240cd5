/- Walks, printed by program: each theorem says what a function of the translation returns. -/
import Derived.Test.YtnhbdlllkmnpfaaDoorSv
import Derived.Test.YtnhbdlllkmnpfaaDoorExt
namespace Go.Proofs.YtnhbdlllkmnpfaaDoor
open Go Go.Lx Go.RowKit
set_option maxRecDepth 100000
set_option linter.unusedVariables false
set_option linter.unusedSimpArgs false
set_option linter.unnecessarySimpa false
theorem el_word : ElT Tryd.prog 66 87 1 8 (.int .u64 0) := ⟨Tryd.underlying66, ⟨Tryd.t87, by kernel_rfl, rfl, rfl, rfl⟩, rfl, by decide, by decide⟩
theorem el_int : ElT Tryd.prog 86 3 1 8 (.int .i64 0) := ⟨Tryd.underlying86, ⟨Tryd.t3, by kernel_rfl, rfl, rfl, rfl⟩, rfl, by decide, by decide⟩
theorem bword_ok (w : World) (s : SV) (Gs : Nat → Prop) (hs : Sl encU 1 Gs w s.a s.c (wl s.x)) (k : Nat) : Ok Tryd.prog 73 #[.agg (encSV s).toArray, .int .i64 (k : Int)] w fun v w' => v = u64 ((wl s.x).getD k 0) ∧ Ext False w w' := by
  replace hs := hs.mono (F' := fun g => Gs g ∧ g < w.heap.size) (fun g h1 h2 => ⟨h2, h1⟩)
  refine Ok_of_W 15 Tryd.func73 rfl rfl rfl ?_
  have hX : Ext False w w := Bel.refl _ _
  refine W_seq ?_
  refine W_region ?_
  refine Rg_newB rfl (o_box (v := .agg _) rfl) ?_
  intro b2 w1 x2 hge2 hb2
  have hlt2 := hb2.lt
  change Box _ _ _ (encSV _) at hb2
  have z3 := Bel.size x2
  replace hX := Bel.ex hX x2
  replace hs := hs.ext x2
  refine Rg_run rfl o_assignc ?_
  refine Rg_nil ?_
  refine W_seq ?_
  refine W_seq ?_
  refine W_region ?_
  refine Rg_run rfl (o_moveh (v := .int _ _) rfl) ?_
  refine Rg_run rfl (o_fa Tryd.underlying68 rfl Tryd.sizeOf66 rfl) ?_
  refine Rg_run rfl (o_load1 Tryd.isAgg66 rfl (hb2.at.get 0 rfl)) ?_
  refine Rg_run rfl (o_llen Tryd.underlying66 rfl) ?_
  refine Rg_run rfl (o_lss rfl rfl) ?_
  refine Rg_nil ?_
  refine W_cond rfl (fun hc1 => ?_) (fun hc1 => ?_)
  · skip
    replace hc1 := of_decide_eq_true hc1
    refine W_seq ?_
    refine W_region ?_
    refine Rg_run rfl (o_fa Tryd.underlying68 rfl Tryd.sizeOf66 rfl) ?_
    refine Rg_run rfl (o_load1 Tryd.isAgg66 rfl (hb2.at.get 0 rfl)) ?_
    refine Rg_run rfl (o_moveh (v := .int _ _) rfl) ?_
    refine Rg_run rfl (o_iaR Tryd.underlying66 Tryd.sizeOf87 hs rfl rfl (by first | omega | (unfold I64; omega) | (simp; done) | (simp; omega) | (simp at *; omega))) ?_
    refine Rg_run rfl (o_ldR Tryd.isAgg87 hs rfl rfl (getE 0 (by omega)) rfl) ?_
    refine Rg_run rfl (o_assignh (v := .int _ _) rfl) ?_
    refine Rg_nil ?_
    refine W_ret ?_
    refine ⟨_, res_tmp rfl rfl, ?_⟩
    exact ⟨rfl, hX⟩
  · skip
    replace hc1 := of_decide_eq_false hc1
    refine W_skip ?_
    refine W_seq ?_
    refine W_region ?_
    refine Rg_run rfl o_assignc ?_
    refine Rg_nil ?_
    refine W_ret ?_
    refine ⟨_, res_tmp rfl rfl, ?_⟩
    exact ⟨by rw [getD_out _ (by omega)]; rfl, hX⟩

theorem bhas_ok (w : World) (s : SV) (Gs : Nat → Prop) (hs : Sl encU 1 Gs w s.a s.c (wl s.x)) (i : Int) (hr : I64 i) : Ok Tryd.prog 51 #[.agg (encSV s).toArray, .int .i64 i] w fun v w' => v = .bool (hasW s.x i) ∧ Ext False w w' := by
  replace hs := hs.mono (F' := fun g => Gs g ∧ g < w.heap.size) (fun g h1 h2 => ⟨h2, h1⟩)
  refine Ok_of_W 22 Tryd.func51 rfl rfl rfl ?_
  have hX : Ext False w w := Bel.refl _ _
  refine W_seq ?_
  refine W_region ?_
  refine Rg_newB rfl (o_box (v := .agg _) rfl) ?_
  intro b2 w1 x2 hge2 hb2
  have hlt2 := hb2.lt
  change Box _ _ _ (encSV _) at hb2
  have z3 := Bel.size x2
  replace hX := Bel.ex hX x2
  replace hs := hs.ext x2
  refine Rg_run rfl o_assignc ?_
  refine Rg_nil ?_
  refine W_seq ?_
  refine W_region ?_
  refine Rg_run rfl (o_moveh (v := .int _ _) rfl) ?_
  refine Rg_run rfl (o_geq rfl rfl) ?_
  refine Rg_run rfl (o_moveh (v := .bool _) rfl) ?_
  refine Rg_may 2 7 rfl rfl rfl (fun hg => (o_moveh (v := .int _ _) rfl)) ?_
  refine Rg_may 2 7 rfl rfl rfl (fun hg => (o_leq (gsel (u := undef) hg) rfl)) ?_
  refine Rg_run rfl (o_and (u := undef) rfl rfl) ?_
  refine Rg_run rfl (o_moveh (v := .bool _) rfl) ?_
  refine Rg_may 6 11 rfl rfl rfl (fun hg => (o_loadS Tryd.isAgg68 Tryd.sizeOf68 rfl hb2.at rfl)) ?_
  refine Rg_may 6 11 rfl rfl rfl (fun hg => (o_moveh (v := .int _ _) rfl)) ?_
  refine Rg_may 6 11 rfl rfl rfl (fun hg => (o_quoT (b := 64) (gsel (u := undef) hg) rfl (by simp at hg; omega) (by decide) hr)) ?_
  refine Rg_mayCall 6 11 rfl rfl rfl (fun hg => ⟨(o_call2 Tryd.call73 (gsel (u := undef) hg) (gsel (u := undef) hg)), bword_ok _ ⟨_, _, _⟩ _ hs _⟩) ?_
  intro w4 x5
  have z6 := Bel.size x5
  replace hX := Bel.ex hX x5
  replace hs := hs.ext x5
  replace hb2 := hb2.ext x5
  refine Rg_may 6 11 rfl rfl rfl (fun hg => (o_moveh (v := .int _ _) rfl)) ?_
  refine Rg_may 6 11 rfl rfl rfl (fun hg => (o_remT (b := 64) (gsel (u := undef) hg) rfl (by simp at hg; omega) (by decide) hr)) ?_
  refine Rg_may 6 11 rfl rfl rfl (fun hg => (o_shrU (gsel (u := undef) hg) (gsel (u := undef) hg) (Nat.mod_lt _ (by decide)))) ?_
  refine Rg_may 6 11 rfl rfl rfl (fun hg => (o_band (b := BitVec.ofNat 64 1) (gsel (u := undef) hg) rfl)) ?_
  refine Rg_may 6 11 rfl rfl rfl (fun hg => (o_eqU (b := BitVec.ofNat 64 1) (gsel (u := undef) hg) rfl)) ?_
  refine Rg_run rfl (o_and (u := undef) rfl rfl) ?_
  refine Rg_run rfl (o_assignh (v := .bool _) rfl) ?_
  refine Rg_nil ?_
  refine W_ret ?_
  refine ⟨_, res_tmp rfl rfl, ?_⟩
  refine ⟨congrArg Value.bool ?_, hX⟩
  all_goals (exact has_eq s.x i)

theorem btrim_ok (a : Option Addr) (c : Nat) (G : Nat → Prop) (ws : List W64) (w : World) (hs : Sl encU 1 G w a c ws) (hw : ws.length ≤ 1) : Ok Tryd.prog 72 #[.slice a ws.length c] w fun v w' => v = .agg (encSV ⟨a, c, ws.getD 0 0⟩).toArray ∧ Ext False w w' := by
  replace hs := hs.top
  refine Ok_of_W 22 Tryd.func72 rfl rfl rfl ?_
  have hX : Ext False w w := Bel.refl _ _
  refine W_seq ?_
  refine W_region ?_
  refine Rg_newB rfl (o_alloc Tryd.zeroValue68) ?_
  intro b2 w1 x2 hge2 hb2
  have hlt2 := hb2.lt
  change Box _ _ _ ([.slice _ _ _]) at hb2
  have z3 := Bel.size x2
  replace hX := Bel.ex hX x2
  replace hs := hs.ext x2
  refine Rg_nil ?_
  refine W_seq ?_
  refine W_block ?_
  refine W_for (α := Nat) [(0, 0), (3, 19)] (fun n => [(0, .slice a (ws.take n).length c)]) (fun n w' => (n ≤ ws.length ∧ ∀ i, n ≤ i → ws.getD i 0 = 0) ∧ Ext False w1 w') (fun n => n) ws.length ⟨(by show Value.slice a ws.length c = _; rw [List.take_length]), trivial⟩ ⟨⟨Nat.le_refl _, fun i hi => getD_out _ hi⟩, Bel.refl _ _⟩ ?_
  rintro n fb6 w5 ⟨⟨hn, hz⟩, hXL4⟩
  have z7 := Bel.size hXL4
  replace hX := Bel.ex hX hXL4
  replace hs := hs.ext hXL4
  replace hb2 := hb2.ext hXL4
  have hl1 := take_n hn
  refine W_seq ?_
  refine W_seq ?_
  refine W_region ?_
  refine Rg_run rfl (o_moveh (v := .slice _ _ _) rfl) ?_
  refine Rg_run rfl (o_llen Tryd.underlying66 rfl) ?_
  refine Rg_run rfl (o_gtr rfl rfl) ?_
  refine Rg_run rfl (o_moveh (v := .bool _) rfl) ?_
  refine Rg_may 3 6 rfl rfl rfl (fun hg => (o_moveh (v := .slice _ _ _) rfl)) ?_
  refine Rg_may 3 6 rfl rfl rfl (fun hg => (o_moveh (v := .slice _ _ _) rfl)) ?_
  refine Rg_may 3 6 rfl rfl rfl (fun hg => (o_llen Tryd.underlying66 (gsel (u := undef) hg))) ?_
  refine Rg_may 3 6 rfl rfl rfl (fun hg => (o_subN (b := 1) (gsel (u := undef) hg) rfl (by have := of_decide_eq_true (eq_of_beq hg); omega) (by omega))) ?_
  refine Rg_may 3 6 rfl rfl rfl (fun hg => (o_iaR (i := (ws.take n).length - 1) Tryd.underlying66 Tryd.sizeOf87 (hs.take n) (gsel (u := undef) hg) (gsel (u := undef) hg) (by have := of_decide_eq_true (eq_of_beq hg); omega))) ?_
  refine Rg_may 3 6 rfl rfl rfl (fun hg => (o_ldR Tryd.isAgg87 (hs.take n) rfl (gsel (u := undef) hg) (getE 0 (by have := of_decide_eq_true (eq_of_beq hg); omega)) rfl)) ?_
  refine Rg_may 3 6 rfl rfl rfl (fun hg => (o_eqU (b := BitVec.ofNat 64 0) (gsel (u := undef) hg) rfl)) ?_
  refine Rg_run rfl (o_and (u := undef) rfl rfl) ?_
  refine Rg_nil ?_
  refine W_cond rfl (fun hc1 => ?_) (fun hc1 => ?_)
  · skip
    have hy := trim_yes hn hc1
    refine W_skip ?_
    refine W_block ?_
    refine W_region ?_
    refine Rg_run rfl (o_moveh (v := .slice _ _ _) rfl) ?_
    refine Rg_run rfl (o_moveh (v := .slice _ _ _) rfl) ?_
    refine Rg_run rfl (o_llen Tryd.underlying66 rfl) ?_
    refine Rg_run rfl (o_subN (b := 1) rfl rfl (by have := hy.1; omega) (by omega)) ?_
    refine Rg_run rfl (o_slto (j := (ws.take (n - 1)).length) Tryd.underlying66 Tryd.sizeOf87 rfl (congrArg (Value.int .i64) (by have e1 := take_n (ws := ws) (n := n - 1) (by omega); omega)) (by have := hs.le; rw [take_n (by omega)]; omega)) ?_
    refine Rg_run rfl (o_assignh (v := .slice _ _ _) rfl) ?_
    refine Rg_nil ?_
    refine ⟨n - 1, ⟨?_, trivial⟩, ?_, ⟨?_, hXL4⟩, ?_⟩
    · first | rfl | (go_num) | (exact congrArg _ (by omega))
    · repeat (first | exact off_refl _ _ | exact off_mix | refine off_put rfl ?_ | refine off_putN ?_ | refine off_setL rfl ?_ | refine off_mix' rfl ?_)
    · exact ⟨by omega, trim_next hy.1 hy.2 hz⟩
    · have := hy.1; omega
  · skip
    refine W_exit ?_
    refine exAt_hit ?_
    refine W_seq ?_
    refine W_region ?_
    rw [(trim_len hw hn hz (trim_no hn hc1)).2]
    refine Rg_run rfl (o_moveh (v := .slice _ _ _) rfl) ?_
    refine Rg_run rfl (o_build (cells := encSV ⟨a, c, ws.getD 0 0⟩) (vs := [(0, .slice _ _ _)]) rfl (by kernel_rfl)) ?_
    refine Rg_storeW (v := .agg _) rfl Tryd.sizeOf68 rfl rfl hb2 rfl rfl rfl ?_
    intro w8 c9 hb2
    change Box _ _ _ (encSV _) at hb2
    have z10 := Bel.size c9
    replace hX := Bel.out hX c9 (fun g h1 h2 => by first | exact h2 | omega)
    replace hs := hs.keep c9 (fun g h1 h2 h3 => by omega)
    refine Rg_nil ?_
    refine W_ret ?_
    refine ⟨_, res_1 (v := .agg _) rfl (rv_cellS Tryd.isAgg68 Tryd.sizeOf68 rfl hb2.at rfl), ?_⟩
    exact ⟨rfl, hX⟩

theorem bof_ok (w : World) (vl : Value) (l : List Int) (hl : Rd encI 1 (Lt w.heap.size) w vl l) (nl : l.length ≤ 1000000) (ol : ∀ p ∈ l, (fun p => 0 ≤ p ∧ p < 64) p) : Ok Tryd.prog 49 #[vl] w fun v w' => ∃ a c, v = .agg (encSV ⟨a, c, ofW l⟩).toArray ∧ Sl encU 1 (Fsh w w') w' a c (wl (ofW l)) ∧ Ext False w w' := by
  obtain ⟨al, cl, rfl, hl⟩ := hl; have ml := hl.len
  refine Ok_of_W 54 Tryd.func49 rfl rfl rfl ?_
  have hX : Ext False w w := Bel.refl _ _
  refine W_seq ?_
  refine W_region ?_
  refine Rg_newB rfl (o_alloc Tryd.zeroValue68) ?_
  intro b2 w1 x2 hge2 hb2
  have hlt2 := hb2.lt
  change Box _ _ _ ([.slice _ _ _]) at hb2
  have z3 := Bel.size x2
  replace hX := Bel.ex hX x2
  replace hl := hl.ext x2
  refine Rg_nil ?_
  refine W_seq ?_
  refine W_region ?_
  refine Rg_run rfl o_assignc ?_
  refine Rg_nil ?_
  refine W_seq ?_
  refine W_seq ?_
  refine W_region ?_
  refine Rg_run rfl (o_moveh (v := .slice _ _ _) rfl) ?_
  refine Rg_run rfl (o_llen Tryd.underlying86 rfl) ?_
  refine Rg_run rfl o_movec ?_
  refine Rg_nil ?_
  refine W_block ?_
  refine W_for (α := Nat × Int) [(3, 3), (5, 5), (11, 20)] (fun p => [(11, .int .i64 (p.1 : Int)), (3, .int .i64 p.2)]) (fun p w' => (TopI l p.1 p.2) ∧ Ext False w1 w') (fun p => l.length - p.1) (0, -1) ⟨rfl, rfl, trivial⟩ ⟨TopI.start l, Bel.refl _ _⟩ ?_
  rintro ⟨k, t⟩ fb6 w5 ⟨ht, hXL4⟩
  dsimp only at *
  have z7 := Bel.size hXL4
  replace hX := Bel.ex hX hXL4
  replace hl := hl.ext hXL4
  replace hb2 := hb2.ext hXL4
  have hk := ht.le
  refine W_seq ?_
  refine W_region ?_
  refine Rg_run rfl (o_lss rfl rfl) ?_
  refine Rg_nil ?_
  refine W_seq ?_
  refine W_cond rfl (fun hc1 => ?_) (fun hc1 => ?_)
  · skip
    replace hc1 := of_decide_eq_true hc1
    refine W_skip ?_
    refine W_seq ?_
    refine W_block ?_
    refine W_seq ?_
    refine W_region ?_
    refine Rg_run rfl (o_iaR Tryd.underlying86 Tryd.sizeOf3 hl rfl rfl (by first | omega | (unfold I64; omega) | (simp; done) | (simp; omega) | (simp at *; omega))) ?_
    refine Rg_run rfl (o_ldR Tryd.isAgg3 hl rfl rfl (getE 0 (by omega)) rfl) ?_
    refine Rg_run rfl (o_assignh (v := .int _ _) rfl) ?_
    refine Rg_nil ?_
    refine W_seq ?_
    refine W_region ?_
    refine Rg_run rfl (o_moveh (v := .int _ _) rfl) ?_
    refine Rg_run rfl (o_leq rfl rfl) ?_
    refine Rg_nil ?_
    refine W_cond_true (congrArg Value.bool (decide_eq_true (by have h2 : l.getD k 0 < 64 := (ol _ (gm (z := (0 : Int)) (show k < l.length by omega))).2; omega))) ?_
    refine W_region ?_
    refine Rg_run rfl (o_moveh (v := .int _ _) rfl) ?_
    refine Rg_run rfl (o_moveh (v := .int _ _) rfl) ?_
    refine Rg_run rfl (o_maxI rfl rfl) ?_
    refine Rg_run rfl (o_assignh (v := .int _ _) rfl) ?_
    refine Rg_nil ?_
    refine W_region ?_
    refine Rg_run rfl (o_add rfl rfl (by unfold I64; omega)) ?_
    refine Rg_run rfl (o_moveh (v := .int _ _) rfl) ?_
    refine Rg_nil ?_
    refine ⟨(k + 1, if t < l.getD k 0 then l.getD k 0 else t), ⟨?_, ?_, trivial⟩, ?_, ⟨?_, hXL4⟩, ?_⟩
    · first | rfl | (go_num) | (exact congrArg _ (by omega))
    · first | rfl | (go_num) | (exact congrArg _ (by omega))
    · repeat (first | exact off_refl _ _ | exact off_mix | refine off_put rfl ?_ | refine off_putN ?_ | refine off_setL rfl ?_ | refine off_mix' rfl ?_)
    · exact ht.next (by omega) (ol _ (gm (by omega))).2
    · show l.length - (k + 1) < l.length - k; omega
  · skip
    replace hc1 := of_decide_eq_false hc1
    have htl : TopI l l.length t := by
      have e : k = l.length := by omega
      rw [← e]; exact ht
    refine W_exit ?_
    refine exAt_hit ?_
    refine W_seq ?_
    refine W_seq ?_
    refine W_region ?_
    refine Rg_run rfl (o_moveh (v := .int _ _) rfl) ?_
    refine Rg_run rfl (o_lss rfl rfl) ?_
    refine Rg_nil ?_
    refine W_cond rfl (fun hc3 => ?_) (fun hc3 => ?_)
    · skip
      replace hc3 := of_decide_eq_true hc3
      refine W_seq ?_
      refine W_region ?_
      refine Rg_run rfl (o_build (cells := encSV ⟨none, 0, 0⟩) (vs := []) rfl (by kernel_rfl)) ?_
      refine Rg_storeW (v := .agg _) rfl Tryd.sizeOf68 rfl rfl hb2 rfl rfl rfl ?_
      intro w8 c9 hb2
      change Box _ _ _ (encSV _) at hb2
      have z10 := Bel.size c9
      replace hX := Bel.out hX c9 (fun g h1 h2 => by first | exact h2 | omega)
      replace hl := hl.keep c9 (fun g h1 h2 h3 => by omega)
      refine Rg_nil ?_
      refine W_ret ?_
      refine ⟨_, res_1 (v := .agg _) rfl (rv_cellS Tryd.isAgg68 Tryd.sizeOf68 rfl hb2.at rfl), ?_⟩
      obtain rfl := ofW_none htl (by omega) (fun i hi => (ol i hi).1)
      exact ⟨_, _, rfl, Sl.none, hX⟩
    · skip
      replace hc3 := of_decide_eq_false hc3
      refine W_skip ?_
      refine W_seq ?_
      refine W_region ?_
      obtain ⟨n0, hn0⟩ : ∃ n, n = w5.heap.size := ⟨_, rfl⟩
      refine Rg_run rfl (o_moveh (v := .int _ _) rfl) ?_
      refine Rg_run rfl (o_quoZ (b := 64) rfl rfl (by omega) (by have := ht.hi; omega) (by have := ht.hi; unfold I64; omega)) ?_
      refine Rg_run rfl (o_add rfl rfl (by first | omega | (unfold I64; omega) | (simp; done) | (simp; omega) | (simp at *; omega))) ?_
      refine Rg_make (m := 1) (0 : W64) rfl encU_ok el_word rfl rfl rfl (by decide) ?_
      intro a27 w11 x12 hown27
      have z13 := Bel.size x12
      replace hX := Bel.ex hX x12
      replace hl := hl.ext x12
      replace hb2 := hb2.ext x12
      replace hown27 := hown27.mono (D' := fun g => n0 ≤ g) (fun g h1 h2 => by omega)
      refine Rg_run rfl (o_assignh (v := .slice _ _ _) rfl) ?_
      refine Rg_nil ?_
      refine W_seq ?_
      refine W_seq ?_
      refine W_region ?_
      refine Rg_run rfl (o_moveh (v := .slice _ _ _) rfl) ?_
      refine Rg_run rfl (o_llen Tryd.underlying86 rfl) ?_
      refine Rg_run rfl o_movec ?_
      refine Rg_nil ?_
      refine W_block ?_
      refine W_for (α := Nat) [(8, 8), (30, 51)] (fun k => [(30, .int .i64 (k : Int))]) (fun k w' => (k ≤ l.length) ∧ Bel False (fun g => n0 ≤ g) w11 w' ∧ (Own encU 1 87 (fun g => n0 ≤ g) w' (.slice a27 1 1) [ofW (l.take k)])) (fun k => l.length - k) 0 ⟨rfl, trivial⟩ ⟨Nat.zero_le _, Bel.refl _ _, (show Own _ _ _ _ _ _ [ofW (l.take 0)] from hown27)⟩ ?_
      rintro k fb16 w15 ⟨hk2, hXL14, hown27⟩
      have z17 := Bel.size hXL14
      replace hX := Bel.out hX hXL14 (fun g h1 h2 => by first | exact h2 | omega)
      replace hl := hl.keep hXL14 (fun g h1 h2 h3 => by omega)
      replace hb2 := hb2.keep hXL14 (fun h => by omega)
      refine W_seq ?_
      refine W_region ?_
      refine Rg_run rfl (o_lss rfl rfl) ?_
      refine Rg_nil ?_
      refine W_seq ?_
      refine W_cond rfl (fun hc4 => ?_) (fun hc4 => ?_)
      · skip
        replace hc4 := of_decide_eq_true hc4
        refine W_skip ?_
        refine W_seq ?_
        refine W_block ?_
        refine W_seq ?_
        refine W_region ?_
        refine Rg_run rfl (o_iaR Tryd.underlying86 Tryd.sizeOf3 hl rfl rfl (by first | omega | (unfold I64; omega) | (simp; done) | (simp; omega) | (simp at *; omega))) ?_
        refine Rg_run rfl (o_ldR Tryd.isAgg3 hl rfl rfl (getE 0 (by omega)) rfl) ?_
        refine Rg_run rfl (o_assignh (v := .int _ _) rfl) ?_
        refine Rg_nil ?_
        refine W_seq ?_
        refine W_region ?_
        have hxm := ol _ (gm (z := (0 : Int)) (show k < l.length by omega))
        have hx0 := hxm.1
        have hx64 := hxm.2
        have hxt := htl.ge k (by omega)
        refine Rg_run rfl (o_moveh (v := .int _ _) rfl) ?_
        refine Rg_run rfl (o_geq rfl rfl) ?_
        refine Rg_run rfl (o_moveh (v := .bool _) rfl) ?_
        refine Rg_may 2 36 rfl rfl rfl (fun hg => (o_moveh (v := .int _ _) rfl)) ?_
        refine Rg_may 2 36 rfl rfl rfl (fun hg => (o_moveh (v := .int _ _) rfl)) ?_
        refine Rg_may 2 36 rfl rfl rfl (fun hg => (o_leq (gsel (u := undef) hg) (gsel (u := undef) hg))) ?_
        refine Rg_run rfl (o_and (u := undef) rfl rfl) ?_
        refine Rg_nil ?_
        refine W_cond_true (congrArg Value.bool (by rw [decide_eq_true hx0, decide_eq_true hxt]; rfl)) ?_
        apply W_draw (β := False) [peq _, peq _, peq _, peq _, peq _, peq _, peq _, peq _, peq _, peq _] 10 mixed (by kernel_rfl) rfl ⟨peq_stable _, peq_stable _, peq_stable _, peq_stable _, peq_stable _, peq_stable _, peq_stable _, peq_stable _, peq_stable _, peq_stable _, trivial⟩ ?ob15 ?fin15
        case ob15 =>
          refine OblL_cons (fun w18 x19 => ?_) ?_
          · skip
            have hl := hl.ext x19
            have hb2 := hb2.ext x19
            have hown27 := hown27.ext x19
            refine bindP_nil ?_
            exact OpS_v rfl (o_moveh (v := .slice _ _ _) rfl)
          refine OblL_cons (fun w20 x21 => ?_) ?_
          · skip
            have hl := hl.ext x21
            have hb2 := hb2.ext x21
            have hown27 := hown27.ext x21
            refine bindP_nil ?_
            exact OpS_v rfl (o_moveh (v := .int _ _) rfl)
          refine OblL_cons (fun w22 x23 => ?_) ?_
          · skip
            have hl := hl.ext x23
            have hb2 := hb2.ext x23
            have hown27 := hown27.ext x23
            refine bindP_eq ?_
            refine bindP_nil ?_
            exact OpS_v rfl (o_quoZ (b := 64) rfl rfl hx0 hx64 (by unfold I64; omega))
          refine OblL_cons (fun w24 x25 => ?_) ?_
          · skip
            have hl := hl.ext x25
            have hb2 := hb2.ext x25
            have hown27 := hown27.ext x25
            refine bindP_eq ?_
            refine bindP_eq ?_
            refine bindP_nil ?_
            exact OpS_v rfl (o_iaO (i := 0) Tryd.underlying66 Tryd.sizeOf87 hown27 rfl rfl (by decide))
          refine OblL_cons (fun w26 x27 => ?_) ?_
          · skip
            have hl := hl.ext x27
            have hb2 := hb2.ext x27
            have hown27 := hown27.ext x27
            refine bindP_eq ?_
            refine bindP_nil ?_
            exact OpS_v rfl (o_ldR Tryd.isAgg87 (hown27.slA encU_ok) rfl rfl (i := 0) rfl rfl)
          refine OblL_cons (fun w28 x29 => ?_) ?_
          · skip
            have hl := hl.ext x29
            have hb2 := hb2.ext x29
            have hown27 := hown27.ext x29
            refine bindP_nil ?_
            exact OpS_v rfl (o_moveh (v := .int _ _) rfl)
          refine OblL_cons (fun w30 x31 => ?_) ?_
          · skip
            have hl := hl.ext x31
            have hb2 := hb2.ext x31
            have hown27 := hown27.ext x31
            refine bindP_eq ?_
            refine bindP_nil ?_
            exact OpS_v rfl (o_remT (b := 64) rfl rfl hx0 (by decide) (by unfold I64; omega))
          refine OblL_cons (fun w32 x33 => ?_) ?_
          · skip
            have hl := hl.ext x33
            have hb2 := hb2.ext x33
            have hown27 := hown27.ext x33
            refine bindP_eq ?_
            refine bindP_nil ?_
            exact OpS_v rfl (o_shlU (a := BitVec.ofNat 64 1) rfl rfl (Nat.mod_lt _ (by decide)))
          refine OblL_cons (fun w34 x35 => ?_) ?_
          · skip
            have hl := hl.ext x35
            have hb2 := hb2.ext x35
            have hown27 := hown27.ext x35
            refine bindP_eq ?_
            refine bindP_eq ?_
            refine bindP_nil ?_
            exact OpS_v rfl (o_bor rfl rfl)
          refine OblL_cons (fun w36 x37 => ?_) ?_
          · skip
            have hl := hl.ext x37
            have hb2 := hb2.ext x37
            have hown27 := hown27.ext x37
            refine bindP_eq ?_
            refine bindP_eq ?_
            refine bindP_eq ?_
            refine bindP_eq ?_
            refine bindP_eq ?_
            refine bindP_eq ?_
            refine bindP_eq ?_
            refine bindP_eq ?_
            refine bindP_eq ?_
            refine bindP_eq ?_
            refine bindP_eq ?_
            refine bindP_nil ?_
            exact OpS_v rfl (o_iaO (i := 0) Tryd.underlying66 Tryd.sizeOf87 hown27 rfl rfl (by decide))
          exact OblL_nil
        case fin15 =>
          intro w38 x39
          have z40 := Bel.size x39
          replace hX := Bel.ex hX x39
          replace hXL14 := Bel.ex hXL14 x39
          replace hl := hl.ext x39
          replace hb2 := hb2.ext x39
          replace hown27 := hown27.ext x39
          refine bindP_eq ?_
          refine bindP_eq ?_
          refine bindP_eq ?_
          refine bindP_eq ?_
          refine bindP_eq ?_
          refine bindP_eq ?_
          refine bindP_eq ?_
          refine bindP_eq ?_
          refine bindP_eq ?_
          refine bindP_eq ?_
          refine bindP_nil ?_
          refine Rg_elst (u := ofW (l.take k) ||| (1#64 <<< ((l.getD k 0).toNat % 64))) rfl encU_ok Tryd.sizeOf87 rfl rfl rfl hown27 (by simp) ?_
          intro w41 x42 hown27
          have z43 := Bel.size x42
          replace hX := Bel.out hX x42 (fun g h1 h2 => by first | exact h2 | omega)
          replace hXL14 := Bel.out hXL14 x42 (fun g h1 h2 => by first | exact h2 | omega)
          replace hl := hl.keep x42 (fun g h1 h2 h3 => by omega)
          replace hb2 := hb2.keep x42 (fun h => by omega)
          refine Rg_nil ?_
          refine W_region ?_
          refine Rg_run rfl (o_add rfl rfl (by first | omega | (unfold I64; omega) | (simp; done) | (simp; omega) | (simp at *; omega))) ?_
          refine Rg_run rfl (o_moveh (v := .int _ _) rfl) ?_
          refine Rg_nil ?_
          refine ⟨k + 1, ⟨?_, trivial⟩, ?_, ⟨?_, hXL14, ?_⟩, ?_⟩
          · first | rfl | (go_num) | (exact congrArg _ (by omega))
          · repeat (first | exact off_refl _ _ | exact off_mix | refine off_put rfl ?_ | refine off_putN ?_ | refine off_setL rfl ?_ | refine off_mix' rfl ?_)
          · show k + 1 ≤ l.length; omega
          · rw [ofW_succ (by omega)]; rw [show (l.getD k 0).toNat % 64 = (l.getD k 0).toNat by omega] at hown27; exact hown27
          · omega
      · skip
        replace hc4 := of_decide_eq_false hc4
        refine W_exit ?_
        refine exAt_hit ?_
        refine W_seq ?_
        refine W_region ?_
        refine Rg_run rfl (o_moveh (v := .slice _ _ _) rfl) ?_
        refine Rg_enter rfl (o_call1 Tryd.call72 rfl) (Ok.mono (btrim_ok _ _ _ [ofW (l.take k)] _ (hown27.slA encU_ok) (by simp)) ?_)
        rintro _ w44 ⟨rfl, x45⟩
        have z46 := Bel.size x45
        replace hX := Bel.ex hX x45
        replace hl := hl.ext x45
        replace hb2 := hb2.ext x45
        replace hown27 := hown27.ext x45
        refine Rg_storeW (v := .agg _) rfl Tryd.sizeOf68 rfl rfl hb2 rfl rfl rfl ?_
        intro w47 c48 hb2
        change Box _ _ _ (encSV _) at hb2
        have z49 := Bel.size c48
        replace hX := Bel.out hX c48 (fun g h1 h2 => by first | exact h2 | omega)
        replace hl := hl.keep c48 (fun g h1 h2 h3 => by omega)
        replace hown27 := hown27.keepD c48 (fun g h1 h2 h3 => by omega)
        refine Rg_nil ?_
        refine W_ret ?_
        refine ⟨_, res_1 (v := .agg _) rfl (rv_cellS Tryd.isAgg68 Tryd.sizeOf68 rfl hb2.at rfl), ?_⟩
        rw [List.take_of_length_le (by omega)] at hown27 ⊢
        exact ⟨_, _, rfl, (trim_sl (hown27.slA encU_ok) (by simp)).mono (fun g h1 h2 => ⟨by omega, by omega⟩), hX⟩

theorem bwith_ok (w : World) (s : SV) (Gs : Nat → Prop) (hs : Sl encU 1 Gs w s.a s.c (wl s.x)) (i : Nat) (hi : i < 64) : Ok Tryd.prog 50 #[.agg (encSV s).toArray, .int .i64 (i : Int)] w fun v w' => ∃ a c, v = .agg (encSV ⟨a, c, s.x ||| oneW i⟩).toArray ∧ Sl encU 1 (fun g => Gs g ∨ Fsh w w' g) w' a c (wl (s.x ||| oneW i)) ∧ Ext False w w' := by
  replace hs := hs.mono (F' := fun g => Gs g ∧ g < w.heap.size) (fun g h1 h2 => ⟨h2, h1⟩)
  refine Ok_of_W 42 Tryd.func50 rfl rfl rfl ?_
  have hX : Ext False w w := Bel.refl _ _
  refine W_seq ?_
  refine W_region ?_
  refine Rg_newB rfl (o_box (v := .agg _) rfl) ?_
  intro b2 w1 x2 hge2 hb2
  have hlt2 := hb2.lt
  change Box _ _ _ (encSV _) at hb2
  have z3 := Bel.size x2
  replace hX := Bel.ex hX x2
  replace hs := hs.ext x2
  refine Rg_newB rfl (o_alloc Tryd.zeroValue68) ?_
  intro b4 w4 x5 hge4 hb4
  have hlt4 := hb4.lt
  change Box _ _ _ ([.slice _ _ _]) at hb4
  have z6 := Bel.size x5
  replace hX := Bel.ex hX x5
  replace hs := hs.ext x5
  replace hb2 := hb2.ext x5
  refine Rg_nil ?_
  refine W_seq ?_
  refine W_seq ?_
  refine W_region ?_
  refine Rg_run rfl (o_moveh (v := .int _ _) rfl) ?_
  refine Rg_run rfl (o_lss rfl rfl) ?_
  refine Rg_run rfl (o_moveh (v := .bool _) rfl) ?_
  refine Rg_may 2 8 rfl rfl rfl (fun hg => (o_moveh (v := .int _ _) rfl)) ?_
  refine Rg_may 2 8 rfl rfl rfl (fun hg => (o_gtr (gsel (u := undef) hg) rfl)) ?_
  refine Rg_run rfl (o_or (u := undef) rfl rfl) ?_
  refine Rg_run rfl (o_moveh (v := .bool _) rfl) ?_
  refine Rg_may 6 12 rfl rfl rfl (fun hg => (o_loadS Tryd.isAgg68 Tryd.sizeOf68 rfl hb2.at rfl)) ?_
  refine Rg_may 6 12 rfl rfl rfl (fun hg => (o_moveh (v := .int _ _) rfl)) ?_
  refine Rg_mayCall 6 12 rfl rfl rfl (fun hg => ⟨(o_call2 Tryd.call51 (gsel (u := undef) hg) (gsel (u := undef) hg)), bhas_ok _ ⟨_, _, _⟩ _ hs _ (by unfold I64; omega)⟩) ?_
  intro w7 x8
  have z9 := Bel.size x8
  replace hX := Bel.ex hX x8
  replace hs := hs.ext x8
  replace hb2 := hb2.ext x8
  replace hb4 := hb4.ext x8
  refine Rg_run rfl (o_or (u := undef) rfl rfl) ?_
  refine Rg_nil ?_
  refine W_cond rfl (fun hc1 => ?_) (fun hc1 => ?_)
  · skip
    have hb := with_yes hi hc1
    refine W_seq ?_
    refine W_region ?_
    refine Rg_run rfl (o_loadS Tryd.isAgg68 Tryd.sizeOf68 rfl hb2.at rfl) ?_
    refine Rg_storeW (v := .agg _) rfl Tryd.sizeOf68 rfl rfl hb4 rfl rfl rfl ?_
    intro w10 c11 hb4
    change Box _ _ _ (encSV _) at hb4
    have z12 := Bel.size c11
    replace hX := Bel.out hX c11 (fun g h1 h2 => by first | exact h2 | omega)
    replace hs := hs.keep c11 (fun g h1 h2 h3 => by omega)
    replace hb2 := hb2.keep c11 (fun h => by omega)
    refine Rg_nil ?_
    refine W_ret ?_
    refine ⟨_, res_1 (v := .agg _) rfl (rv_cellS Tryd.isAgg68 Tryd.sizeOf68 rfl hb4.at rfl), ?_⟩
    rw [with_has hi hb]; exact ⟨_, _, rfl, hs.mono (fun g h1 h2 => Or.inl h2.1), hX⟩
  · skip
    refine W_skip ?_
    refine W_seq ?_
    refine W_region ?_
    obtain ⟨n0, hn0⟩ : ∃ n, n = w7.heap.size := ⟨_, rfl⟩
    have hm1 := with_len (x := s.x) hi
    refine Rg_run rfl (o_fa Tryd.underlying68 rfl Tryd.sizeOf66 rfl) ?_
    refine Rg_run rfl (o_load1 Tryd.isAgg66 rfl (hb2.at.get 0 rfl)) ?_
    refine Rg_run rfl (o_llen Tryd.underlying66 rfl) ?_
    refine Rg_run rfl (o_moveh (v := .int _ _) rfl) ?_
    refine Rg_run rfl (o_quoZ (b := 64) rfl rfl (by omega) (by omega) (by unfold I64; omega)) ?_
    refine Rg_run rfl (o_add rfl rfl (by unfold I64; omega)) ?_
    refine Rg_run rfl (o_maxTo (b := 1) rfl rfl (with_max hi)) ?_
    refine Rg_make (m := (wl (s.x ||| oneW i)).length) (0 : W64) rfl encU_ok el_word rfl rfl rfl (by omega) ?_
    intro a25 w13 x14 hown25
    have z15 := Bel.size x14
    replace hX := Bel.ex hX x14
    replace hs := hs.ext x14
    replace hb2 := hb2.ext x14
    replace hb4 := hb4.ext x14
    replace hown25 := hown25.mono (D' := fun g => n0 ≤ g) (fun g h1 h2 => by omega)
    have e1 : List.replicate (wl (s.x ||| oneW i)).length (0 : W64) = [0] := by rw [hm1]; rfl
    rw [e1] at hown25
    refine Rg_run rfl (o_assignh (v := .slice _ _ _) rfl) ?_
    refine Rg_nil ?_
    refine W_seq ?_
    refine W_region ?_
    refine Rg_run rfl (o_moveh (v := .slice _ _ _) rfl) ?_
    refine Rg_run rfl (o_fa Tryd.underlying68 rfl Tryd.sizeOf66 rfl) ?_
    refine Rg_run rfl (o_load1 Tryd.isAgg66 rfl (hb2.at.get 0 rfl)) ?_
    refine Rg_copy rfl encU_ok el_word rfl rfl hown25 hs (by have := wl_len s.x; simp; omega) ?_
    intro w16 x17 hown25
    have z18 := Bel.size x17
    replace hX := Bel.out hX x17 (fun g h1 h2 => by first | exact h2 | omega)
    replace hs := hs.keep x17 (fun g h1 h2 h3 => by omega)
    replace hb2 := hb2.keep x17 (fun h => by omega)
    replace hb4 := hb4.keep x17 (fun h => by omega)
    refine Rg_nil ?_
    refine W_seq ?_
    rw [wl_pad] at hown25
    apply W_draw (β := False) [peq _, peq _, peq _, peq _, peq _, peq _, peq _, peq _, peq _, peq _] 10 mixed (by kernel_rfl) rfl ⟨peq_stable _, peq_stable _, peq_stable _, peq_stable _, peq_stable _, peq_stable _, peq_stable _, peq_stable _, peq_stable _, peq_stable _, trivial⟩ ?ob5 ?fin5
    case ob5 =>
      refine OblL_cons (fun w19 x20 => ?_) ?_
      · skip
        have hs := hs.ext x20
        have hb2 := hb2.ext x20
        have hb4 := hb4.ext x20
        have hown25 := hown25.ext x20
        refine bindP_nil ?_
        exact OpS_v rfl (o_moveh (v := .slice _ _ _) rfl)
      refine OblL_cons (fun w21 x22 => ?_) ?_
      · skip
        have hs := hs.ext x22
        have hb2 := hb2.ext x22
        have hb4 := hb4.ext x22
        have hown25 := hown25.ext x22
        refine bindP_nil ?_
        exact OpS_v rfl (o_moveh (v := .int _ _) rfl)
      refine OblL_cons (fun w23 x24 => ?_) ?_
      · skip
        have hs := hs.ext x24
        have hb2 := hb2.ext x24
        have hb4 := hb4.ext x24
        have hown25 := hown25.ext x24
        refine bindP_eq ?_
        refine bindP_nil ?_
        exact OpS_v rfl (o_quoZ (b := 64) rfl rfl (by omega) (by omega) (by unfold I64; omega))
      refine OblL_cons (fun w25 x26 => ?_) ?_
      · skip
        have hs := hs.ext x26
        have hb2 := hb2.ext x26
        have hb4 := hb4.ext x26
        have hown25 := hown25.ext x26
        refine bindP_eq ?_
        refine bindP_eq ?_
        refine bindP_nil ?_
        exact OpS_v rfl (o_iaO (i := 0) Tryd.underlying66 Tryd.sizeOf87 hown25 rfl rfl (by omega))
      refine OblL_cons (fun w27 x28 => ?_) ?_
      · skip
        have hs := hs.ext x28
        have hb2 := hb2.ext x28
        have hb4 := hb4.ext x28
        have hown25 := hown25.ext x28
        refine bindP_eq ?_
        refine bindP_nil ?_
        exact OpS_v rfl (o_ldR Tryd.isAgg87 (hown25.slA encU_ok) rfl rfl (i := 0) rfl rfl)
      refine OblL_cons (fun w29 x30 => ?_) ?_
      · skip
        have hs := hs.ext x30
        have hb2 := hb2.ext x30
        have hb4 := hb4.ext x30
        have hown25 := hown25.ext x30
        refine bindP_nil ?_
        exact OpS_v rfl (o_moveh (v := .int _ _) rfl)
      refine OblL_cons (fun w31 x32 => ?_) ?_
      · skip
        have hs := hs.ext x32
        have hb2 := hb2.ext x32
        have hb4 := hb4.ext x32
        have hown25 := hown25.ext x32
        refine bindP_eq ?_
        refine bindP_nil ?_
        exact OpS_v rfl (o_remT (b := 64) rfl rfl (by omega) (by decide) (by unfold I64; omega))
      refine OblL_cons (fun w33 x34 => ?_) ?_
      · skip
        have hs := hs.ext x34
        have hb2 := hb2.ext x34
        have hb4 := hb4.ext x34
        have hown25 := hown25.ext x34
        refine bindP_eq ?_
        refine bindP_nil ?_
        exact OpS_v rfl (o_shlU (a := BitVec.ofNat 64 1) rfl rfl (Nat.mod_lt _ (by decide)))
      refine OblL_cons (fun w35 x36 => ?_) ?_
      · skip
        have hs := hs.ext x36
        have hb2 := hb2.ext x36
        have hb4 := hb4.ext x36
        have hown25 := hown25.ext x36
        refine bindP_eq ?_
        refine bindP_eq ?_
        refine bindP_nil ?_
        exact OpS_v rfl (o_bor rfl rfl)
      refine OblL_cons (fun w37 x38 => ?_) ?_
      · skip
        have hs := hs.ext x38
        have hb2 := hb2.ext x38
        have hb4 := hb4.ext x38
        have hown25 := hown25.ext x38
        refine bindP_eq ?_
        refine bindP_eq ?_
        refine bindP_eq ?_
        refine bindP_eq ?_
        refine bindP_eq ?_
        refine bindP_eq ?_
        refine bindP_eq ?_
        refine bindP_eq ?_
        refine bindP_eq ?_
        refine bindP_eq ?_
        refine bindP_eq ?_
        refine bindP_nil ?_
        exact OpS_v rfl (o_iaO (i := 0) Tryd.underlying66 Tryd.sizeOf87 hown25 rfl rfl (by omega))
      exact OblL_nil
    case fin5 =>
      intro w39 x40
      have z41 := Bel.size x40
      replace hX := Bel.ex hX x40
      replace hs := hs.ext x40
      replace hb2 := hb2.ext x40
      replace hb4 := hb4.ext x40
      replace hown25 := hown25.ext x40
      refine bindP_eq ?_
      refine bindP_eq ?_
      refine bindP_eq ?_
      refine bindP_eq ?_
      refine bindP_eq ?_
      refine bindP_eq ?_
      refine bindP_eq ?_
      refine bindP_eq ?_
      refine bindP_eq ?_
      refine bindP_eq ?_
      refine bindP_nil ?_
      refine Rg_elst (u := s.x ||| (1#64 <<< ((i : Int).toNat % 64))) rfl encU_ok Tryd.sizeOf87 rfl rfl rfl hown25 (by simp) ?_
      intro w42 x43 hown25
      have z44 := Bel.size x43
      replace hX := Bel.out hX x43 (fun g h1 h2 => by first | exact h2 | omega)
      replace hs := hs.keep x43 (fun g h1 h2 h3 => by omega)
      replace hb2 := hb2.keep x43 (fun h => by omega)
      replace hb4 := hb4.keep x43 (fun h => by omega)
      refine Rg_nil ?_
      refine W_seq ?_
      refine W_region ?_
      refine Rg_run rfl (o_moveh (v := .slice _ _ _) rfl) ?_
      refine Rg_run rfl (o_build (cells := encSV ⟨a25, (wl (s.x ||| oneW i)).length, (s.x ||| oneW i)⟩) (vs := [(0, .slice _ _ _)]) rfl (by kernel_rfl)) ?_
      refine Rg_storeW (v := .agg _) rfl Tryd.sizeOf68 rfl rfl hb4 rfl rfl rfl ?_
      intro w45 c46 hb4
      change Box _ _ _ (encSV _) at hb4
      have z47 := Bel.size c46
      replace hX := Bel.out hX c46 (fun g h1 h2 => by first | exact h2 | omega)
      replace hs := hs.keep c46 (fun g h1 h2 h3 => by omega)
      replace hb2 := hb2.keep c46 (fun h => by omega)
      replace hown25 := hown25.keepD c46 (fun g h1 h2 h3 => by omega)
      refine Rg_nil ?_
      refine W_ret ?_
      refine ⟨_, res_1 (v := .agg _) rfl (rv_cellS Tryd.isAgg68 Tryd.sizeOf68 rfl hb4.at rfl), ?_⟩
      have e2 : (i : Int).toNat % 64 = i := by omega
      rw [e2] at hown25
      have h := (hown25.slA encU_ok).mono (F' := fun g => Gs g ∨ Fsh w w45 g) (fun g h1 h2 => Or.inr ⟨by omega, by omega⟩)
      have e3 : ([s.x] : List W64).set 0 (s.x ||| 1#64 <<< i) = wl (s.x ||| oneW i) := by rw [wl_some (with_ne hi)]; rfl
      rw [e3] at h
      exact ⟨_, _, rfl, h, hX⟩

theorem bmeets_ok (w : World) (s : SV) (Gs : Nat → Prop) (hs : Sl encU 1 Gs w s.a s.c (wl s.x)) (o : SV) (Go : Nat → Prop) (ho : Sl encU 1 Go w o.a o.c (wl o.x)) : Ok Tryd.prog 52 #[.agg (encSV s).toArray, .agg (encSV o).toArray] w fun v w' => v = .bool ((s.x &&& o.x) != 0) ∧ Ext False w w' := by
  replace hs := hs.mono (F' := fun g => Gs g ∧ g < w.heap.size) (fun g h1 h2 => ⟨h2, h1⟩)
  replace ho := ho.mono (F' := fun g => Go g ∧ g < w.heap.size) (fun g h1 h2 => ⟨h2, h1⟩)
  refine Ok_of_W 29 Tryd.func52 rfl rfl rfl ?_
  have hX : Ext False w w := Bel.refl _ _
  refine W_seq ?_
  refine W_region ?_
  refine Rg_newB rfl (o_box (v := .agg _) rfl) ?_
  intro b2 w1 x2 hge2 hb2
  have hlt2 := hb2.lt
  change Box _ _ _ (encSV _) at hb2
  have z3 := Bel.size x2
  replace hX := Bel.ex hX x2
  replace hs := hs.ext x2
  replace ho := ho.ext x2
  refine Rg_newB rfl (o_box (v := .agg _) rfl) ?_
  intro b3 w4 x5 hge3 hb3
  have hlt3 := hb3.lt
  change Box _ _ _ (encSV _) at hb3
  have z6 := Bel.size x5
  replace hX := Bel.ex hX x5
  replace hs := hs.ext x5
  replace ho := ho.ext x5
  replace hb2 := hb2.ext x5
  refine Rg_run rfl o_assignc ?_
  refine Rg_nil ?_
  refine W_seq ?_
  refine W_seq ?_
  refine W_region ?_
  refine Rg_run rfl (o_fa Tryd.underlying68 rfl Tryd.sizeOf66 rfl) ?_
  refine Rg_run rfl (o_load1 Tryd.isAgg66 rfl (hb2.at.get 0 rfl)) ?_
  refine Rg_run rfl (o_llen Tryd.underlying66 rfl) ?_
  refine Rg_run rfl (o_fa Tryd.underlying68 rfl Tryd.sizeOf66 rfl) ?_
  refine Rg_run rfl (o_load1 Tryd.isAgg66 rfl (hb3.at.get 0 rfl)) ?_
  refine Rg_run rfl (o_llen Tryd.underlying66 rfl) ?_
  refine Rg_run rfl (o_minN rfl rfl) ?_
  refine Rg_run rfl o_movec ?_
  refine Rg_nil ?_
  refine W_block ?_
  refine W_for (α := Nat) [(4, 5), (13, 28)] (fun k => [(13, .int .i64 (k : Int))]) (fun k w' => (k ≤ min (wl s.x).length (wl o.x).length ∧ (1 ≤ k → s.x &&& o.x = 0)) ∧ Ext False w4 w') (fun k => (wl s.x).length - k) 0 ⟨rfl, trivial⟩ ⟨⟨Nat.zero_le _, fun h => by omega⟩, Bel.refl _ _⟩ ?_
  rintro k fb9 w8 ⟨⟨hk, hz⟩, hXL7⟩
  have z10 := Bel.size hXL7
  replace hX := Bel.ex hX hXL7
  replace hs := hs.ext hXL7
  replace ho := ho.ext hXL7
  replace hb2 := hb2.ext hXL7
  replace hb3 := hb3.ext hXL7
  refine W_seq ?_
  refine W_region ?_
  refine Rg_run rfl (o_lss rfl rfl) ?_
  refine Rg_nil ?_
  refine W_seq ?_
  refine W_cond rfl (fun hc1 => ?_) (fun hc1 => ?_)
  · skip
    replace hc1 := of_decide_eq_true hc1; have hkm : k < min (wl s.x).length (wl o.x).length := by omega
    refine W_skip ?_
    refine W_seq ?_
    refine W_block ?_
    refine W_seq ?_
    refine W_region ?_
    refine Rg_run rfl (o_moveh (v := .int _ _) rfl) ?_
    refine Rg_run rfl (o_assignh (v := .int _ _) rfl) ?_
    refine Rg_nil ?_
    refine W_seq ?_
    apply W_draw (β := False) [peq _, peq _, peq _, peq _, peq _, peq _, peq _, peq _, peq _, peq _, peq _, peq _] 12 mixed (by kernel_rfl) rfl ⟨peq_stable _, peq_stable _, peq_stable _, peq_stable _, peq_stable _, peq_stable _, peq_stable _, peq_stable _, peq_stable _, peq_stable _, peq_stable _, peq_stable _, trivial⟩ ?ob4 ?fin4
    case ob4 =>
      refine OblL_cons (fun w11 x12 => ?_) ?_
      · skip
        have hs := hs.ext x12
        have ho := ho.ext x12
        have hb2 := hb2.ext x12
        have hb3 := hb3.ext x12
        refine bindP_nil ?_
        exact OpS_v rfl (o_fa Tryd.underlying68 rfl Tryd.sizeOf66 rfl)
      refine OblL_cons (fun w13 x14 => ?_) ?_
      · skip
        have hs := hs.ext x14
        have ho := ho.ext x14
        have hb2 := hb2.ext x14
        have hb3 := hb3.ext x14
        refine bindP_eq ?_
        refine bindP_nil ?_
        exact OpS_v rfl (o_load1 Tryd.isAgg66 rfl (hb2.at.get 0 rfl))
      refine OblL_cons (fun w15 x16 => ?_) ?_
      · skip
        have hs := hs.ext x16
        have ho := ho.ext x16
        have hb2 := hb2.ext x16
        have hb3 := hb3.ext x16
        refine bindP_nil ?_
        exact OpS_v rfl (o_moveh (v := .int _ _) rfl)
      refine OblL_cons (fun w17 x18 => ?_) ?_
      · skip
        have hs := hs.ext x18
        have ho := ho.ext x18
        have hb2 := hb2.ext x18
        have hb3 := hb3.ext x18
        refine bindP_eq ?_
        refine bindP_eq ?_
        refine bindP_nil ?_
        exact OpS_v rfl (o_iaR Tryd.underlying66 Tryd.sizeOf87 hs rfl rfl (by first | omega | (unfold I64; omega) | (simp; done) | (simp; omega) | (simp at *; omega)))
      refine OblL_cons (fun w19 x20 => ?_) ?_
      · skip
        have hs := hs.ext x20
        have ho := ho.ext x20
        have hb2 := hb2.ext x20
        have hb3 := hb3.ext x20
        refine bindP_eq ?_
        refine bindP_nil ?_
        exact OpS_v rfl (o_ldR Tryd.isAgg87 hs rfl rfl (getE 0 (by omega)) rfl)
      refine OblL_cons (fun w21 x22 => ?_) ?_
      · skip
        have hs := hs.ext x22
        have ho := ho.ext x22
        have hb2 := hb2.ext x22
        have hb3 := hb3.ext x22
        refine bindP_nil ?_
        exact OpS_v rfl (o_fa Tryd.underlying68 rfl Tryd.sizeOf66 rfl)
      refine OblL_cons (fun w23 x24 => ?_) ?_
      · skip
        have hs := hs.ext x24
        have ho := ho.ext x24
        have hb2 := hb2.ext x24
        have hb3 := hb3.ext x24
        refine bindP_eq ?_
        refine bindP_nil ?_
        exact OpS_v rfl (o_load1 Tryd.isAgg66 rfl (hb3.at.get 0 rfl))
      refine OblL_cons (fun w25 x26 => ?_) ?_
      · skip
        have hs := hs.ext x26
        have ho := ho.ext x26
        have hb2 := hb2.ext x26
        have hb3 := hb3.ext x26
        refine bindP_nil ?_
        exact OpS_v rfl (o_moveh (v := .int _ _) rfl)
      refine OblL_cons (fun w27 x28 => ?_) ?_
      · skip
        have hs := hs.ext x28
        have ho := ho.ext x28
        have hb2 := hb2.ext x28
        have hb3 := hb3.ext x28
        refine bindP_eq ?_
        refine bindP_eq ?_
        refine bindP_nil ?_
        exact OpS_v rfl (o_iaR Tryd.underlying66 Tryd.sizeOf87 ho rfl rfl (by first | omega | (unfold I64; omega) | (simp; done) | (simp; omega) | (simp at *; omega)))
      refine OblL_cons (fun w29 x30 => ?_) ?_
      · skip
        have hs := hs.ext x30
        have ho := ho.ext x30
        have hb2 := hb2.ext x30
        have hb3 := hb3.ext x30
        refine bindP_eq ?_
        refine bindP_nil ?_
        exact OpS_v rfl (o_ldR Tryd.isAgg87 ho rfl rfl (getE 0 (by omega)) rfl)
      refine OblL_cons (fun w31 x32 => ?_) ?_
      · skip
        have hs := hs.ext x32
        have ho := ho.ext x32
        have hb2 := hb2.ext x32
        have hb3 := hb3.ext x32
        refine bindP_eq ?_
        refine bindP_eq ?_
        refine bindP_nil ?_
        exact OpS_v rfl (o_band rfl rfl)
      refine OblL_cons (fun w33 x34 => ?_) ?_
      · skip
        have hs := hs.ext x34
        have ho := ho.ext x34
        have hb2 := hb2.ext x34
        have hb3 := hb3.ext x34
        refine bindP_eq ?_
        refine bindP_nil ?_
        exact OpS_v rfl (o_neU (b := BitVec.ofNat 64 0) rfl rfl)
      exact OblL_nil
    case fin4 =>
      intro w35 x36
      have z37 := Bel.size x36
      replace hX := Bel.ex hX x36
      replace hXL7 := Bel.ex hXL7 x36
      replace hs := hs.ext x36
      replace ho := ho.ext x36
      replace hb2 := hb2.ext x36
      replace hb3 := hb3.ext x36
      refine bindP_eq ?_
      refine bindP_eq ?_
      refine bindP_eq ?_
      refine bindP_eq ?_
      refine bindP_eq ?_
      refine bindP_eq ?_
      refine bindP_eq ?_
      refine bindP_eq ?_
      refine bindP_eq ?_
      refine bindP_eq ?_
      refine bindP_eq ?_
      refine bindP_eq ?_
      refine bindP_nil ?_
      refine Rg_nil ?_
      refine W_cond rfl (fun hc2 => ?_) (fun hc2 => ?_)
      · skip
        refine W_seq ?_
        refine W_region ?_
        refine Rg_run rfl o_assignc ?_
        refine Rg_nil ?_
        refine W_ret ?_
        refine ⟨_, res_tmp rfl rfl, ?_⟩
        refine ⟨congrArg Value.bool ?_, hX⟩
        all_goals (rw [meets_yes hkm] at hc2; exact hc2.symm)
      · skip
        refine W_skip ?_
        refine W_region ?_
        refine Rg_run rfl (o_add rfl rfl (by have := wl_len s.x; unfold I64; omega)) ?_
        refine Rg_run rfl (o_moveh (v := .int _ _) rfl) ?_
        refine Rg_nil ?_
        refine ⟨k + 1, ⟨?_, trivial⟩, ?_, ⟨?_, hXL7⟩, ?_⟩
        · first | rfl | (go_num) | (exact congrArg _ (by omega))
        · repeat (first | exact off_refl _ _ | exact off_mix | refine off_put rfl ?_ | refine off_putN ?_ | refine off_setL rfl ?_ | refine off_mix' rfl ?_)
        · exact ⟨by omega, fun _ => by rw [← meets_yes hkm]; simpa using hc2⟩
        · omega
  · skip
    replace hc1 := of_decide_eq_false hc1
    refine W_exit ?_
    refine exAt_hit ?_
    refine W_seq ?_
    refine W_region ?_
    refine Rg_run rfl o_assignc ?_
    refine Rg_nil ?_
    refine W_ret ?_
    refine ⟨_, res_tmp rfl rfl, ?_⟩
    refine ⟨congrArg Value.bool ?_, hX⟩
    all_goals (rw [meets_end hk hc1 hz]; rfl)

theorem bwithin_ok (w : World) (s : SV) (Gs : Nat → Prop) (hs : Sl encU 1 Gs w s.a s.c (wl s.x)) (o : SV) (Go : Nat → Prop) (ho : Sl encU 1 Go w o.a o.c (wl o.x)) : Ok Tryd.prog 53 #[.agg (encSV s).toArray, .agg (encSV o).toArray] w fun v w' => v = .bool (subW s.x o.x) ∧ Ext False w w' := by
  replace hs := hs.mono (F' := fun g => Gs g ∧ g < w.heap.size) (fun g h1 h2 => ⟨h2, h1⟩)
  replace ho := ho.mono (F' := fun g => Go g ∧ g < w.heap.size) (fun g h1 h2 => ⟨h2, h1⟩)
  refine Ok_of_W 22 Tryd.func53 rfl rfl rfl ?_
  have hX : Ext False w w := Bel.refl _ _
  refine W_seq ?_
  refine W_region ?_
  refine Rg_newB rfl (o_box (v := .agg _) rfl) ?_
  intro b2 w1 x2 hge2 hb2
  have hlt2 := hb2.lt
  change Box _ _ _ (encSV _) at hb2
  have z3 := Bel.size x2
  replace hX := Bel.ex hX x2
  replace hs := hs.ext x2
  replace ho := ho.ext x2
  refine Rg_newB rfl (o_box (v := .agg _) rfl) ?_
  intro b3 w4 x5 hge3 hb3
  have hlt3 := hb3.lt
  change Box _ _ _ (encSV _) at hb3
  have z6 := Bel.size x5
  replace hX := Bel.ex hX x5
  replace hs := hs.ext x5
  replace ho := ho.ext x5
  replace hb2 := hb2.ext x5
  refine Rg_run rfl o_assignc ?_
  refine Rg_nil ?_
  refine W_seq ?_
  refine W_seq ?_
  refine W_region ?_
  refine Rg_run rfl (o_fa Tryd.underlying68 rfl Tryd.sizeOf66 rfl) ?_
  refine Rg_run rfl (o_load1 Tryd.isAgg66 rfl (hb2.at.get 0 rfl)) ?_
  refine Rg_run rfl (o_llen Tryd.underlying66 rfl) ?_
  refine Rg_run rfl o_movec ?_
  refine Rg_nil ?_
  refine W_block ?_
  refine W_for (α := Nat) [(4, 6), (10, 21)] (fun k => [(10, .int .i64 (k : Int))]) (fun k w' => (k ≤ (wl s.x).length ∧ (1 ≤ k → s.x &&& ~~~o.x = 0)) ∧ Ext False w4 w') (fun k => (wl s.x).length - k) 0 ⟨rfl, trivial⟩ ⟨⟨Nat.zero_le _, fun h => by omega⟩, Bel.refl _ _⟩ ?_
  rintro k fb9 w8 ⟨⟨hk, hz⟩, hXL7⟩
  have z10 := Bel.size hXL7
  replace hX := Bel.ex hX hXL7
  replace hs := hs.ext hXL7
  replace ho := ho.ext hXL7
  replace hb2 := hb2.ext hXL7
  replace hb3 := hb3.ext hXL7
  refine W_seq ?_
  refine W_region ?_
  refine Rg_run rfl (o_lss rfl rfl) ?_
  refine Rg_nil ?_
  refine W_seq ?_
  refine W_cond rfl (fun hc1 => ?_) (fun hc1 => ?_)
  · skip
    replace hc1 := of_decide_eq_true hc1; have hkm : k < (wl s.x).length := by omega
    refine W_skip ?_
    refine W_seq ?_
    refine W_block ?_
    refine W_seq ?_
    refine W_region ?_
    refine Rg_run rfl (o_moveh (v := .int _ _) rfl) ?_
    refine Rg_run rfl (o_iaR Tryd.underlying66 Tryd.sizeOf87 hs rfl rfl (by first | omega | (unfold I64; omega) | (simp; done) | (simp; omega) | (simp at *; omega))) ?_
    refine Rg_run rfl (o_ldR Tryd.isAgg87 hs rfl rfl (getE 0 (by omega)) rfl) ?_
    refine Rg_run rfl (o_assignh (v := .int _ _) rfl) ?_
    refine Rg_run rfl (o_assignh (v := .int _ _) rfl) ?_
    refine Rg_nil ?_
    refine W_seq ?_
    refine W_region ?_
    refine Rg_run rfl (o_moveh (v := .int _ _) rfl) ?_
    refine Rg_run rfl (o_loadS Tryd.isAgg68 Tryd.sizeOf68 rfl hb3.at rfl) ?_
    refine Rg_run rfl (o_moveh (v := .int _ _) rfl) ?_
    refine Rg_enter rfl (o_call2 Tryd.call73 rfl rfl) (Ok.mono (bword_ok _ ⟨_, _, _⟩ _ ho _) ?_)
    rintro _ w11 ⟨rfl, x12⟩
    have z13 := Bel.size x12
    replace hX := Bel.ex hX x12
    replace hXL7 := Bel.ex hXL7 x12
    replace hs := hs.ext x12
    replace ho := ho.ext x12
    replace hb2 := hb2.ext x12
    replace hb3 := hb3.ext x12
    refine Rg_run rfl (o_bandn rfl rfl) ?_
    refine Rg_run rfl (o_neU (b := BitVec.ofNat 64 0) rfl rfl) ?_
    refine Rg_nil ?_
    refine W_cond rfl (fun hc2 => ?_) (fun hc2 => ?_)
    · skip
      refine W_seq ?_
      refine W_region ?_
      refine Rg_run rfl o_assignc ?_
      refine Rg_nil ?_
      refine W_ret ?_
      refine ⟨_, res_tmp rfl rfl, ?_⟩
      refine ⟨congrArg Value.bool ?_, hX⟩
      all_goals (rw [sub_yes hkm] at hc2; unfold subW; symm; simpa using hc2)
    · skip
      refine W_skip ?_
      refine W_region ?_
      refine Rg_run rfl (o_add rfl rfl (by have := wl_len s.x; unfold I64; omega)) ?_
      refine Rg_run rfl (o_moveh (v := .int _ _) rfl) ?_
      refine Rg_nil ?_
      refine ⟨k + 1, ⟨?_, trivial⟩, ?_, ⟨?_, hXL7⟩, ?_⟩
      · first | rfl | (go_num) | (exact congrArg _ (by omega))
      · repeat (first | exact off_refl _ _ | exact off_mix | refine off_put rfl ?_ | refine off_putN ?_ | refine off_setL rfl ?_ | refine off_mix' rfl ?_)
      · exact ⟨by omega, fun _ => by rw [← sub_yes hkm]; simpa using hc2⟩
      · omega
  · skip
    replace hc1 := of_decide_eq_false hc1
    refine W_exit ?_
    refine exAt_hit ?_
    refine W_seq ?_
    refine W_region ?_
    refine Rg_run rfl o_assignc ?_
    refine Rg_nil ?_
    refine W_ret ?_
    refine ⟨_, res_tmp rfl rfl, ?_⟩
    refine ⟨congrArg Value.bool ?_, hX⟩
    all_goals (exact (sub_end hc1 hz).symm)

end Go.Proofs.YtnhbdlllkmnpfaaDoor
