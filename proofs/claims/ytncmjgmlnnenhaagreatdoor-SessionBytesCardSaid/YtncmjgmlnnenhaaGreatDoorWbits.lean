/- Walks, printed by program: each theorem says what a function of the translation returns. -/
import Derived.Test.YtncmjgmlnnenhaaGreatDoorSv
import Derived.Test.YtncmjgmlnnenhaaGreatDoorPure11
namespace Go.Proofs.YtncmjgmlnnenhaaGreatDoor
open Go Go.Lx Go.RowKit
set_option maxRecDepth 100000
set_option linter.unusedVariables false
set_option linter.unusedSimpArgs false
set_option linter.unnecessarySimpa false
theorem el_word : ElT Tryz.prog 34 50 1 8 (.int .u64 0) := ⟨Tryz.underlying34, ⟨Tryz.t50, by kernel_rfl, rfl, rfl, rfl⟩, rfl, by decide, by decide⟩
theorem el_int : ElT Tryz.prog 109 3 1 8 (.int .i64 0) := ⟨Tryz.underlying109, ⟨Tryz.t3, by kernel_rfl, rfl, rfl, rfl⟩, rfl, by decide, by decide⟩
theorem bword_ok (w : World) (s : SV) (Gs : Nat → Prop) (hs : Sl encU 1 Gs w s.a s.c (wl s.x)) (k : Nat) : Ok Tryz.prog 95 #[.agg (encSV s).toArray, .int .i64 (k : Int)] w fun v w' => v = u64 ((wl s.x).getD k 0) ∧ Ext False w w' := by
  replace hs := hs.mono (F' := fun g => Gs g ∧ g < w.heap.size) (fun g h1 h2 => ⟨h2, h1⟩)
  refine Ok_of_W 15 Tryz.func95 rfl rfl rfl ?_
  have hX : Ext False w w := Bel.refl _ _
  refine W_seq (W_region ?_)
  refine Rg_newB rfl (o_box (v := .agg _) rfl) ?_
  intro b2 w1 x2 hge2 hb2
  have hlt2 := hb2.lt
  change Box _ _ _ (encSV _) at hb2
  have z3 := Bel.size x2
  replace hX := Bel.ex hX x2
  replace hs := hs.ext x2
  refine Rg_run rfl o_assignc ?_
  refine Rg_nil (W_seq (W_seq (W_region ?_)))
  refine Rg_run rfl (o_moveh (v := .int _ _) rfl) ?_
  refine Rg_run rfl (o_fa Tryz.underlying36 rfl Tryz.sizeOf34 rfl) ?_
  refine Rg_run rfl (o_load1 Tryz.isAgg34 rfl (hb2.at.get 0 rfl)) ?_
  refine Rg_run rfl (o_llen Tryz.underlying34 rfl) ?_
  refine Rg_run rfl (o_lss rfl rfl) ?_
  refine Rg_nil ?_
  refine W_cond rfl (fun hc1 => ?_) (fun hc1 => ?_)
  · skip
    replace hc1 := of_decide_eq_true hc1
    refine W_seq (W_region ?_)
    refine Rg_run rfl (o_fa Tryz.underlying36 rfl Tryz.sizeOf34 rfl) ?_
    refine Rg_run rfl (o_load1 Tryz.isAgg34 rfl (hb2.at.get 0 rfl)) ?_
    refine Rg_run rfl (o_moveh (v := .int _ _) rfl) ?_
    refine Rg_run rfl (o_iaR Tryz.underlying34 Tryz.sizeOf50 hs rfl rfl (by first | omega | (unfold I64; omega) | (simp; done) | (simp; omega) | (simp at *; omega))) ?_
    refine Rg_run rfl (o_ldR Tryz.isAgg50 hs rfl rfl (getE 0 (by omega)) rfl) ?_
    refine Rg_run rfl (o_assignh (v := .int _ _) rfl) ?_
    refine Rg_nil (W_ret ?_)
    refine ⟨_, res_tmp rfl rfl, ?_⟩
    exact ⟨rfl, hX⟩
  replace hc1 := of_decide_eq_false hc1
  refine W_skip (W_seq (W_region ?_))
  refine Rg_run rfl o_assignc ?_
  refine Rg_nil (W_ret ?_)
  refine ⟨_, res_tmp rfl rfl, ?_⟩
  exact ⟨by rw [getD_out _ (by omega)]; rfl, hX⟩

theorem bhas_ok (w : World) (s : SV) (Gs : Nat → Prop) (hs : Sl encU 1 Gs w s.a s.c (wl s.x)) (i : Int) (hr : I64 i) : Ok Tryz.prog 46 #[.agg (encSV s).toArray, .int .i64 i] w fun v w' => v = .bool (hasW s.x i) ∧ Ext False w w' := by
  replace hs := hs.mono (F' := fun g => Gs g ∧ g < w.heap.size) (fun g h1 h2 => ⟨h2, h1⟩)
  refine Ok_of_W 22 Tryz.func46 rfl rfl rfl ?_
  have hX : Ext False w w := Bel.refl _ _
  refine W_seq (W_region ?_)
  refine Rg_newB rfl (o_box (v := .agg _) rfl) ?_
  intro b2 w1 x2 hge2 hb2
  have hlt2 := hb2.lt
  change Box _ _ _ (encSV _) at hb2
  have z3 := Bel.size x2
  replace hX := Bel.ex hX x2
  replace hs := hs.ext x2
  refine Rg_run rfl o_assignc ?_
  refine Rg_nil (W_seq (W_region ?_))
  refine Rg_run rfl (o_moveh (v := .int _ _) rfl) ?_
  refine Rg_run rfl (o_geq rfl rfl) ?_
  refine Rg_run rfl (o_moveh (v := .bool _) rfl) ?_
  refine Rg_may 2 7 rfl rfl rfl (fun hg => (o_moveh (v := .int _ _) rfl)) ?_
  refine Rg_may 2 7 rfl rfl rfl (fun hg => (o_leq (gsel (u := undef) hg) rfl)) ?_
  refine Rg_run rfl (o_and (u := undef) rfl rfl) ?_
  refine Rg_run rfl (o_moveh (v := .bool _) rfl) ?_
  refine Rg_may 6 11 rfl rfl rfl (fun hg => (o_loadS Tryz.isAgg36 Tryz.sizeOf36 rfl hb2.at rfl)) ?_
  refine Rg_may 6 11 rfl rfl rfl (fun hg => (o_moveh (v := .int _ _) rfl)) ?_
  refine Rg_may 6 11 rfl rfl rfl (fun hg => (o_quoT (b := 64) (gsel (u := undef) hg) rfl (by simp at hg; omega) (by decide) hr)) ?_
  refine Rg_mayCall 6 11 rfl rfl rfl (fun hg => ⟨(o_call2 Tryz.call95 (gsel (u := undef) hg) (gsel (u := undef) hg)), bword_ok _ ⟨_, _, _⟩ _ hs _⟩) ?_
  intro w4 x5
  have z6 := Bel.size x5
  replace hX := Bel.ex hX x5
  replace hs := hs.ext x5
  replace hb2 := hb2.ext x5
  refine Rg_may 6 11 rfl rfl rfl (fun hg => (o_moveh (v := .int _ _) rfl)) ?_
  refine Rg_may 6 11 rfl rfl rfl (fun hg => (o_remT (b := 64) (gsel (u := undef) hg) rfl (by simp at hg; omega) (by decide) hr)) ?_
  refine Rg_may 6 11 rfl rfl rfl (fun hg => (o_shrU (gsel (u := undef) hg) (gsel (u := undef) hg) (Nat.mod_lt _ (by decide)))) ?_
  refine Rg_may 6 11 rfl rfl rfl (fun hg => (o_band (b := BitVec.ofNat 64 1) (gsel (u := undef) hg) rfl)) ?_
  refine Rg_may 6 11 rfl rfl rfl (fun hg => (o_eqU (b := BitVec.ofNat 64 1) (gsel (u := undef) hg) rfl)) ?_
  refine Rg_run rfl (o_and (u := undef) rfl rfl) ?_
  refine Rg_run rfl (o_assignh (v := .bool _) rfl) ?_
  refine Rg_nil (W_ret ?_)
  refine ⟨_, res_tmp rfl rfl, ?_⟩
  refine ⟨congrArg Value.bool ?_, hX⟩
  all_goals (exact has_eq s.x i)

theorem btrim_ok (a : Option Addr) (c : Nat) (G : Nat → Prop) (ws : List W64) (w : World) (hs : Sl encU 1 G w a c ws) (hw : ws.length ≤ 1) : Ok Tryz.prog 82 #[.slice a ws.length c] w fun v w' => v = .agg (encSV ⟨a, c, ws.getD 0 0⟩).toArray ∧ Ext False w w' := by
  replace hs := hs.top
  refine Ok_of_W 22 Tryz.func82 rfl rfl rfl ?_
  have hX : Ext False w w := Bel.refl _ _
  refine W_seq (W_region ?_)
  refine Rg_newB rfl (o_alloc Tryz.zeroValue36) ?_
  intro b2 w1 x2 hge2 hb2
  have hlt2 := hb2.lt
  change Box _ _ _ ([.slice _ _ _]) at hb2
  have z3 := Bel.size x2
  replace hX := Bel.ex hX x2
  replace hs := hs.ext x2
  refine Rg_nil (W_seq (W_block ?_))
  refine W_for (α := Nat) [(0, 0), (3, 19)] (fun n => [(0, .slice a (ws.take n).length c)]) (fun n w' => (n ≤ ws.length ∧ ∀ i, n ≤ i → ws.getD i 0 = 0) ∧ Ext False w1 w') (fun n => n) ws.length ⟨(by show Value.slice a ws.length c = _; rw [List.take_length]), trivial⟩ ⟨⟨Nat.le_refl _, fun i hi => getD_out _ hi⟩, Bel.refl _ _⟩ ?_
  rintro n fb6 w5 ⟨⟨hn, hz⟩, hXL4⟩
  have z7 := Bel.size hXL4
  replace hX := Bel.ex hX hXL4
  replace hs := hs.ext hXL4
  replace hb2 := hb2.ext hXL4
  have hl1 := take_n hn
  refine W_seq (W_seq (W_region ?_))
  refine Rg_run rfl (o_moveh (v := .slice _ _ _) rfl) ?_
  refine Rg_run rfl (o_llen Tryz.underlying34 rfl) ?_
  refine Rg_run rfl (o_gtr rfl rfl) ?_
  refine Rg_run rfl (o_moveh (v := .bool _) rfl) ?_
  refine Rg_may 3 6 rfl rfl rfl (fun hg => (o_moveh (v := .slice _ _ _) rfl)) ?_
  refine Rg_may 3 6 rfl rfl rfl (fun hg => (o_moveh (v := .slice _ _ _) rfl)) ?_
  refine Rg_may 3 6 rfl rfl rfl (fun hg => (o_llen Tryz.underlying34 (gsel (u := undef) hg))) ?_
  refine Rg_may 3 6 rfl rfl rfl (fun hg => (o_subN (b := 1) (gsel (u := undef) hg) rfl (by have := of_decide_eq_true (eq_of_beq hg); omega) (by omega))) ?_
  refine Rg_may 3 6 rfl rfl rfl (fun hg => (o_iaR (i := (ws.take n).length - 1) Tryz.underlying34 Tryz.sizeOf50 (hs.take n) (gsel (u := undef) hg) (gsel (u := undef) hg) (by have := of_decide_eq_true (eq_of_beq hg); omega))) ?_
  refine Rg_may 3 6 rfl rfl rfl (fun hg => (o_ldR Tryz.isAgg50 (hs.take n) rfl (gsel (u := undef) hg) (getE 0 (by have := of_decide_eq_true (eq_of_beq hg); omega)) rfl)) ?_
  refine Rg_may 3 6 rfl rfl rfl (fun hg => (o_eqU (b := BitVec.ofNat 64 0) (gsel (u := undef) hg) rfl)) ?_
  refine Rg_run rfl (o_and (u := undef) rfl rfl) ?_
  refine Rg_nil ?_
  refine W_cond rfl (fun hc1 => ?_) (fun hc1 => ?_)
  · skip
    have hy := trim_yes hn hc1
    refine W_skip (W_block (W_region ?_))
    refine Rg_run rfl (o_moveh (v := .slice _ _ _) rfl) ?_
    refine Rg_run rfl (o_moveh (v := .slice _ _ _) rfl) ?_
    refine Rg_run rfl (o_llen Tryz.underlying34 rfl) ?_
    refine Rg_run rfl (o_subN (b := 1) rfl rfl (by have := hy.1; omega) (by omega)) ?_
    refine Rg_run rfl (o_slto (j := (ws.take (n - 1)).length) Tryz.underlying34 Tryz.sizeOf50 rfl (congrArg (Value.int .i64) (by have e1 := take_n (ws := ws) (n := n - 1) (by omega); omega)) (by have := hs.le; rw [take_n (by omega)]; omega)) ?_
    refine Rg_run rfl (o_assignh (v := .slice _ _ _) rfl) ?_
    refine Rg_nil ?_
    refine ⟨n - 1, ⟨?_, trivial⟩, ?_, ⟨?_, hXL4⟩, ?_⟩
    · first | rfl | (go_num) | (exact congrArg _ (by omega))
    · repeat (first | exact off_refl _ _ | exact off_mix | refine off_put rfl ?_ | refine off_putN ?_ | refine off_setL rfl ?_ | refine off_mix' rfl ?_)
    · exact ⟨by omega, trim_next hy.1 hy.2 hz⟩
    · have := hy.1; omega
  refine W_exit (exAt_hit (W_seq (W_region ?_)))
  rw [(trim_len hw hn hz (trim_no hn hc1)).2]
  refine Rg_run rfl (o_moveh (v := .slice _ _ _) rfl) ?_
  refine Rg_run rfl (o_build (cells := encSV ⟨a, c, ws.getD 0 0⟩) (vs := [(0, .slice _ _ _)]) rfl (by kernel_rfl)) ?_
  refine Rg_storeW (v := .agg _) rfl Tryz.sizeOf36 rfl rfl hb2 rfl rfl rfl ?_
  intro w8 c9 hb2
  change Box _ _ _ (encSV _) at hb2
  have z10 := Bel.size c9
  replace hX := Bel.out hX c9 (fun g h1 h2 => by first | exact h2 | omega)
  refine Rg_nil (W_ret ?_)
  refine ⟨_, res_1 (v := .agg _) rfl (rv_cellS Tryz.isAgg36 Tryz.sizeOf36 rfl hb2.at rfl), ?_⟩
  exact ⟨rfl, hX⟩

theorem bof_ok (w : World) (vl : Value) (l : List Int) (hl : Rd encJ 1 (Lt w.heap.size) w vl l) (nl : l.length ≤ 1000000) (ol : ∀ p ∈ l, (fun p => 0 ≤ p ∧ p < 64) p) : Ok Tryz.prog 33 #[vl] w fun v w' => ∃ a c, v = .agg (encSV ⟨a, c, ofW l⟩).toArray ∧ Sl encU 1 (Fsh w w') w' a c (wl (ofW l)) ∧ Ext False w w' := by
  obtain ⟨al, cl, rfl, hl⟩ := hl; have ml := hl.len
  refine Ok_of_W 54 Tryz.func33 rfl rfl rfl ?_
  have hX : Ext False w w := Bel.refl _ _
  refine W_seq (W_region ?_)
  refine Rg_newB rfl (o_alloc Tryz.zeroValue36) ?_
  intro b2 w1 x2 hge2 hb2
  have hlt2 := hb2.lt
  change Box _ _ _ ([.slice _ _ _]) at hb2
  have z3 := Bel.size x2
  replace hX := Bel.ex hX x2
  replace hl := hl.ext x2
  refine Rg_nil (W_seq (W_region ?_))
  refine Rg_run rfl o_assignc ?_
  refine Rg_nil (W_seq (W_seq (W_region ?_)))
  refine Rg_run rfl (o_moveh (v := .slice _ _ _) rfl) ?_
  refine Rg_run rfl (o_llen Tryz.underlying109 rfl) ?_
  refine Rg_run rfl o_movec ?_
  refine Rg_nil (W_block ?_)
  refine W_for (α := Nat × Int) [(3, 3), (5, 5), (11, 20)] (fun p => [(11, .int .i64 (p.1 : Int)), (3, .int .i64 p.2)]) (fun p w' => (TopI l p.1 p.2) ∧ Ext False w1 w') (fun p => l.length - p.1) (0, -1) ⟨rfl, rfl, trivial⟩ ⟨TopI.start l, Bel.refl _ _⟩ ?_
  rintro ⟨k, t⟩ fb6 w5 ⟨ht, hXL4⟩
  dsimp only at *
  have z7 := Bel.size hXL4
  replace hX := Bel.ex hX hXL4
  replace hl := hl.ext hXL4
  replace hb2 := hb2.ext hXL4
  have hk := ht.le
  refine W_seq (W_region ?_)
  refine Rg_run rfl (o_lss rfl rfl) ?_
  refine Rg_nil (W_seq ?_)
  refine W_cond rfl (fun hc1 => ?_) (fun hc1 => ?_)
  · skip
    replace hc1 := of_decide_eq_true hc1
    refine W_skip (W_seq (W_block (W_seq (W_region ?_))))
    refine Rg_run rfl (o_iaR Tryz.underlying109 Tryz.sizeOf3 hl rfl rfl (by first | omega | (unfold I64; omega) | (simp; done) | (simp; omega) | (simp at *; omega))) ?_
    refine Rg_run rfl (o_ldR Tryz.isAgg3 hl rfl rfl (getE 0 (by omega)) rfl) ?_
    refine Rg_run rfl (o_assignh (v := .int _ _) rfl) ?_
    refine Rg_nil (W_seq (W_region ?_))
    refine Rg_run rfl (o_moveh (v := .int _ _) rfl) ?_
    refine Rg_run rfl (o_leq rfl rfl) ?_
    refine Rg_nil ?_
    refine W_cond_true (congrArg Value.bool (decide_eq_true (by have h2 : l.getD k 0 < 64 := (ol _ (gm (z := (0 : Int)) (show k < l.length by omega))).2; omega))) ?_
    refine W_region ?_
    refine Rg_run rfl (o_moveh (v := .int _ _) rfl) ?_
    refine Rg_run rfl (o_moveh (v := .int _ _) rfl) ?_
    refine Rg_run rfl (o_maxI rfl rfl) ?_
    refine Rg_run rfl (o_assignh (v := .int _ _) rfl) ?_
    refine Rg_nil (W_region ?_)
    refine Rg_run rfl (o_add rfl rfl (by unfold I64; omega)) ?_
    refine Rg_run rfl (o_moveh (v := .int _ _) rfl) ?_
    refine Rg_nil ?_
    refine ⟨(k + 1, if t < l.getD k 0 then l.getD k 0 else t), ⟨?_, ?_, trivial⟩, ?_, ⟨?_, hXL4⟩, ?_⟩
    · first | rfl | (go_num) | (exact congrArg _ (by omega))
    · first | rfl | (go_num) | (exact congrArg _ (by omega))
    · repeat (first | exact off_refl _ _ | exact off_mix | refine off_put rfl ?_ | refine off_putN ?_ | refine off_setL rfl ?_ | refine off_mix' rfl ?_)
    · exact ht.next (by omega) (ol _ (gm (by omega))).2
    · show l.length - (k + 1) < l.length - k; omega
  replace hc1 := of_decide_eq_false hc1
  have htl : TopI l l.length t := by
    have e : k = l.length := by omega
    rw [← e]; exact ht
  refine W_exit (exAt_hit (W_seq (W_seq (W_region ?_))))
  refine Rg_run rfl (o_moveh (v := .int _ _) rfl) ?_
  refine Rg_run rfl (o_lss rfl rfl) ?_
  refine Rg_nil ?_
  refine W_cond rfl (fun hc3 => ?_) (fun hc3 => ?_)
  · skip
    replace hc3 := of_decide_eq_true hc3
    refine W_seq (W_region ?_)
    refine Rg_run rfl (o_build (cells := encSV ⟨none, 0, 0⟩) (vs := []) rfl (by kernel_rfl)) ?_
    refine Rg_storeW (v := .agg _) rfl Tryz.sizeOf36 rfl rfl hb2 rfl rfl rfl ?_
    intro w8 c9 hb2
    change Box _ _ _ (encSV _) at hb2
    have z10 := Bel.size c9
    replace hX := Bel.out hX c9 (fun g h1 h2 => by first | exact h2 | omega)
    refine Rg_nil (W_ret ?_)
    refine ⟨_, res_1 (v := .agg _) rfl (rv_cellS Tryz.isAgg36 Tryz.sizeOf36 rfl hb2.at rfl), ?_⟩
    obtain rfl := ofW_none htl (by omega) (fun i hi => (ol i hi).1)
    exact ⟨_, _, rfl, Sl.none, hX⟩
  replace hc3 := of_decide_eq_false hc3
  refine W_skip (W_seq (W_region ?_))
  obtain ⟨n0, hn0⟩ : ∃ n, n = w5.heap.size := ⟨_, rfl⟩
  refine Rg_run rfl (o_moveh (v := .int _ _) rfl) ?_
  refine Rg_run rfl (o_quoZ (b := 64) rfl rfl (by omega) (by have := ht.hi; omega) (by have := ht.hi; unfold I64; omega)) ?_
  refine Rg_run rfl (o_add rfl rfl (by first | omega | (unfold I64; omega) | (simp; done) | (simp; omega) | (simp at *; omega))) ?_
  refine Rg_make (m := 1) (0 : W64) rfl encU_ok el_word rfl rfl rfl (by decide) ?_
  intro a27 w11 x12 hown27
  have z13 := Bel.size x12
  replace hX := Bel.ex hX x12
  replace hl := hl.ext x12
  replace hb2 := hb2.ext x12
  replace hown27 := hown27.mono (D' := fun g => n0 ≤ g) (fun g h1 h2 => by omega)
  refine Rg_run rfl (o_assignh (v := .slice _ _ _) rfl) ?_
  refine Rg_nil (W_seq (W_seq (W_region ?_)))
  refine Rg_run rfl (o_moveh (v := .slice _ _ _) rfl) ?_
  refine Rg_run rfl (o_llen Tryz.underlying109 rfl) ?_
  refine Rg_run rfl o_movec ?_
  refine Rg_nil (W_block ?_)
  refine W_for (α := Nat) [(8, 8), (30, 51)] (fun k => [(30, .int .i64 (k : Int))]) (fun k w' => (k ≤ l.length) ∧ Bel False (fun g => n0 ≤ g) w11 w' ∧ (Own encU 1 50 (fun g => n0 ≤ g) w' (.slice a27 1 1) [ofW (l.take k)])) (fun k => l.length - k) 0 ⟨rfl, trivial⟩ ⟨Nat.zero_le _, Bel.refl _ _, (show Own _ _ _ _ _ _ [ofW (l.take 0)] from hown27)⟩ ?_
  rintro k fb16 w15 ⟨hk2, hXL14, hown27⟩
  have z17 := Bel.size hXL14
  replace hX := Bel.out hX hXL14 (fun g h1 h2 => by first | exact h2 | omega)
  replace hl := hl.keep hXL14 (fun g h1 h2 h3 => by omega)
  replace hb2 := hb2.keep hXL14 (fun h => by omega)
  refine W_seq (W_region ?_)
  refine Rg_run rfl (o_lss rfl rfl) ?_
  refine Rg_nil (W_seq ?_)
  refine W_cond rfl (fun hc4 => ?_) (fun hc4 => ?_)
  · skip
    replace hc4 := of_decide_eq_true hc4
    refine W_skip (W_seq (W_block (W_seq (W_region ?_))))
    refine Rg_run rfl (o_iaR Tryz.underlying109 Tryz.sizeOf3 hl rfl rfl (by first | omega | (unfold I64; omega) | (simp; done) | (simp; omega) | (simp at *; omega))) ?_
    refine Rg_run rfl (o_ldR Tryz.isAgg3 hl rfl rfl (getE 0 (by omega)) rfl) ?_
    refine Rg_run rfl (o_assignh (v := .int _ _) rfl) ?_
    refine Rg_nil (W_seq (W_region ?_))
    have hxm := ol _ (gm (z := (0 : Int)) (show k < l.length by omega))
    have hx0 := hxm.1
    have hx64 := hxm.2
    have hxt := htl.ge k (by omega)
    refine Rg_run rfl (o_moveh (v := .int _ _) rfl) ?_
    refine Rg_run rfl (o_geq rfl rfl) ?_
    refine Rg_run rfl (o_moveh (v := .bool _) rfl) ?_
    refine Rg_may 2 36 rfl rfl rfl (fun hg => (o_moveh (v := .int _ _) rfl)) ?_
    refine Rg_may 2 36 rfl rfl rfl (fun hg => (o_moveh (v := .int _ _) rfl)) ?_
    refine Rg_may 2 36 rfl rfl rfl (fun hg => (o_leq (gsel (u := undef) hg) (gsel (u := undef) hg))) ?_
    refine Rg_run rfl (o_and (u := undef) rfl rfl) ?_
    refine Rg_nil ?_
    refine W_cond_true (congrArg Value.bool (by rw [decide_eq_true hx0, decide_eq_true hxt]; rfl)) ?_
    apply W_draw (β := False) [peq _, peq _, peq _, peq _, peq _, peq _, peq _, peq _, peq _, peq _] 10 mixed (by kernel_rfl) rfl ⟨peq_stable _, peq_stable _, peq_stable _, peq_stable _, peq_stable _, peq_stable _, peq_stable _, peq_stable _, peq_stable _, peq_stable _, trivial⟩ ?ob15 ?fin15
    case ob15 =>
      refine OblL_cons (fun w18 x19 => ?_) ?_
      · skip
        have z20 := Bel.size x19
        refine bindP_nil ?_
        exact OpS_v rfl (o_moveh (v := .slice _ _ _) rfl)
      refine OblL_cons (fun w21 x22 => ?_) ?_
      · skip
        have z23 := Bel.size x22
        refine bindP_nil ?_
        exact OpS_v rfl (o_moveh (v := .int _ _) rfl)
      refine OblL_cons (fun w24 x25 => ?_) ?_
      · skip
        have z26 := Bel.size x25
        refine bindP_eq (bindP_nil ?_)
        exact OpS_v rfl (o_quoZ (b := 64) rfl rfl hx0 hx64 (by unfold I64; omega))
      refine OblL_cons (fun w27 x28 => ?_) ?_
      · skip
        have z29 := Bel.size x28
        have hown27 := hown27.ext x28
        refine bindP_eq (bindP_eq (bindP_nil ?_))
        exact OpS_v rfl (o_iaO (i := 0) Tryz.underlying34 Tryz.sizeOf50 hown27 rfl rfl (by decide))
      refine OblL_cons (fun w30 x31 => ?_) ?_
      · skip
        have z32 := Bel.size x31
        have hown27 := hown27.ext x31
        refine bindP_eq (bindP_nil ?_)
        exact OpS_v rfl (o_ldR Tryz.isAgg50 (hown27.slA encU_ok) rfl rfl (i := 0) rfl rfl)
      refine OblL_cons (fun w33 x34 => ?_) ?_
      · skip
        have z35 := Bel.size x34
        refine bindP_nil ?_
        exact OpS_v rfl (o_moveh (v := .int _ _) rfl)
      refine OblL_cons (fun w36 x37 => ?_) ?_
      · skip
        have z38 := Bel.size x37
        refine bindP_eq (bindP_nil ?_)
        exact OpS_v rfl (o_remT (b := 64) rfl rfl hx0 (by decide) (by unfold I64; omega))
      refine OblL_cons (fun w39 x40 => ?_) ?_
      · skip
        have z41 := Bel.size x40
        refine bindP_eq (bindP_nil ?_)
        exact OpS_v rfl (o_shlU (a := BitVec.ofNat 64 1) rfl rfl (Nat.mod_lt _ (by decide)))
      refine OblL_cons (fun w42 x43 => ?_) ?_
      · skip
        have z44 := Bel.size x43
        refine bindP_eq (bindP_eq (bindP_nil ?_))
        exact OpS_v rfl (o_bor rfl rfl)
      refine OblL_cons (fun w45 x46 => ?_) ?_
      · skip
        have z47 := Bel.size x46
        have hown27 := hown27.ext x46
        refine bindP_eq (bindP_eq (bindP_eq (bindP_eq (bindP_eq (bindP_eq (bindP_eq (bindP_eq (bindP_eq ?_))))))))
        refine bindP_eq (bindP_eq (bindP_nil ?_))
        exact OpS_v rfl (o_iaO (i := 0) Tryz.underlying34 Tryz.sizeOf50 hown27 rfl rfl (by decide))
      exact OblL_nil
    case fin15 =>
      intro w48 x49
      have z50 := Bel.size x49
      replace hX := Bel.ex hX x49
      replace hXL14 := Bel.ex hXL14 x49
      replace hown27 := hown27.ext x49
      refine bindP_eq (bindP_eq (bindP_eq (bindP_eq (bindP_eq (bindP_eq (bindP_eq (bindP_eq (bindP_eq ?_))))))))
      refine bindP_eq (bindP_nil ?_)
      refine Rg_elst (u := ofW (l.take k) ||| (1#64 <<< ((l.getD k 0).toNat % 64))) rfl encU_ok Tryz.sizeOf50 rfl rfl rfl hown27 (by simp) ?_
      intro w51 x52 hown27
      have z53 := Bel.size x52
      replace hX := Bel.out hX x52 (fun g h1 h2 => by first | exact h2 | omega)
      replace hXL14 := Bel.out hXL14 x52 (fun g h1 h2 => by first | exact h2 | omega)
      refine Rg_nil (W_region ?_)
      refine Rg_run rfl (o_add rfl rfl (by first | omega | (unfold I64; omega) | (simp; done) | (simp; omega) | (simp at *; omega))) ?_
      refine Rg_run rfl (o_moveh (v := .int _ _) rfl) ?_
      refine Rg_nil ?_
      refine ⟨k + 1, ⟨?_, trivial⟩, ?_, ⟨?_, hXL14, ?_⟩, ?_⟩
      · first | rfl | (go_num) | (exact congrArg _ (by omega))
      · repeat (first | exact off_refl _ _ | exact off_mix | refine off_put rfl ?_ | refine off_putN ?_ | refine off_setL rfl ?_ | refine off_mix' rfl ?_)
      · show k + 1 ≤ l.length; omega
      · rw [ofW_succ (by omega)]; rw [show (l.getD k 0).toNat % 64 = (l.getD k 0).toNat by omega] at hown27; exact hown27
      · omega
  replace hc4 := of_decide_eq_false hc4
  refine W_exit (exAt_hit (W_seq (W_region ?_)))
  refine Rg_run rfl (o_moveh (v := .slice _ _ _) rfl) ?_
  refine Rg_enter rfl (o_call1 Tryz.call82 rfl) (Ok.mono (btrim_ok _ _ _ [ofW (l.take k)] _ (hown27.slA encU_ok) (by simp)) ?_)
  rintro _ w54 ⟨rfl, x55⟩
  have z56 := Bel.size x55
  replace hX := Bel.ex hX x55
  replace hb2 := hb2.ext x55
  replace hown27 := hown27.ext x55
  refine Rg_storeW (v := .agg _) rfl Tryz.sizeOf36 rfl rfl hb2 rfl rfl rfl ?_
  intro w57 c58 hb2
  change Box _ _ _ (encSV _) at hb2
  have z59 := Bel.size c58
  replace hX := Bel.out hX c58 (fun g h1 h2 => by first | exact h2 | omega)
  replace hown27 := hown27.keepD c58 (fun g h1 h2 h3 => by omega)
  refine Rg_nil (W_ret ?_)
  refine ⟨_, res_1 (v := .agg _) rfl (rv_cellS Tryz.isAgg36 Tryz.sizeOf36 rfl hb2.at rfl), ?_⟩
  rw [List.take_of_length_le (by omega)] at hown27 ⊢
  exact ⟨_, _, rfl, (trim_sl (hown27.slA encU_ok) (by simp)).mono (fun g h1 h2 => ⟨by omega, by omega⟩), hX⟩

theorem bwith_ok (w : World) (s : SV) (Gs : Nat → Prop) (hs : Sl encU 1 Gs w s.a s.c (wl s.x)) (i : Nat) (hi : i < 64) : Ok Tryz.prog 47 #[.agg (encSV s).toArray, .int .i64 (i : Int)] w fun v w' => ∃ a c, v = .agg (encSV ⟨a, c, s.x ||| oneW i⟩).toArray ∧ Sl encU 1 (fun g => Gs g ∨ Fsh w w' g) w' a c (wl (s.x ||| oneW i)) ∧ Ext False w w' := by
  replace hs := hs.mono (F' := fun g => Gs g ∧ g < w.heap.size) (fun g h1 h2 => ⟨h2, h1⟩)
  refine Ok_of_W 42 Tryz.func47 rfl rfl rfl ?_
  have hX : Ext False w w := Bel.refl _ _
  refine W_seq (W_region ?_)
  refine Rg_newB rfl (o_box (v := .agg _) rfl) ?_
  intro b2 w1 x2 hge2 hb2
  have hlt2 := hb2.lt
  change Box _ _ _ (encSV _) at hb2
  have z3 := Bel.size x2
  replace hX := Bel.ex hX x2
  replace hs := hs.ext x2
  refine Rg_newB rfl (o_alloc Tryz.zeroValue36) ?_
  intro b4 w4 x5 hge4 hb4
  have hlt4 := hb4.lt
  change Box _ _ _ ([.slice _ _ _]) at hb4
  have z6 := Bel.size x5
  replace hX := Bel.ex hX x5
  replace hs := hs.ext x5
  replace hb2 := hb2.ext x5
  refine Rg_nil (W_seq (W_seq (W_region ?_)))
  refine Rg_run rfl (o_moveh (v := .int _ _) rfl) ?_
  refine Rg_run rfl (o_lss rfl rfl) ?_
  refine Rg_run rfl (o_moveh (v := .bool _) rfl) ?_
  refine Rg_may 2 8 rfl rfl rfl (fun hg => (o_moveh (v := .int _ _) rfl)) ?_
  refine Rg_may 2 8 rfl rfl rfl (fun hg => (o_gtr (gsel (u := undef) hg) rfl)) ?_
  refine Rg_run rfl (o_or (u := undef) rfl rfl) ?_
  refine Rg_run rfl (o_moveh (v := .bool _) rfl) ?_
  refine Rg_may 6 12 rfl rfl rfl (fun hg => (o_loadS Tryz.isAgg36 Tryz.sizeOf36 rfl hb2.at rfl)) ?_
  refine Rg_may 6 12 rfl rfl rfl (fun hg => (o_moveh (v := .int _ _) rfl)) ?_
  refine Rg_mayCall 6 12 rfl rfl rfl (fun hg => ⟨(o_call2 Tryz.call46 (gsel (u := undef) hg) (gsel (u := undef) hg)), bhas_ok _ ⟨_, _, _⟩ _ hs _ (by unfold I64; omega)⟩) ?_
  intro w7 x8
  have z9 := Bel.size x8
  replace hX := Bel.ex hX x8
  replace hs := hs.ext x8
  replace hb2 := hb2.ext x8
  replace hb4 := hb4.ext x8
  refine Rg_run rfl (o_or (u := undef) rfl rfl) ?_
  refine Rg_nil ?_
  refine W_cond rfl (fun hc1 => ?_) (fun hc1 => ?_)
  · skip
    have hb := with_yes hi hc1
    refine W_seq (W_region ?_)
    refine Rg_run rfl (o_loadS Tryz.isAgg36 Tryz.sizeOf36 rfl hb2.at rfl) ?_
    refine Rg_storeW (v := .agg _) rfl Tryz.sizeOf36 rfl rfl hb4 rfl rfl rfl ?_
    intro w10 c11 hb4
    change Box _ _ _ (encSV _) at hb4
    have z12 := Bel.size c11
    replace hX := Bel.out hX c11 (fun g h1 h2 => by first | exact h2 | omega)
    replace hs := hs.keep c11 (fun g h1 h2 h3 => by omega)
    refine Rg_nil (W_ret ?_)
    refine ⟨_, res_1 (v := .agg _) rfl (rv_cellS Tryz.isAgg36 Tryz.sizeOf36 rfl hb4.at rfl), ?_⟩
    rw [with_has hi hb]; exact ⟨_, _, rfl, hs.mono (fun g h1 h2 => Or.inl h2.1), hX⟩
  refine W_skip (W_seq (W_region ?_))
  obtain ⟨n0, hn0⟩ : ∃ n, n = w7.heap.size := ⟨_, rfl⟩
  have hm1 := with_len (x := s.x) hi
  refine Rg_run rfl (o_fa Tryz.underlying36 rfl Tryz.sizeOf34 rfl) ?_
  refine Rg_run rfl (o_load1 Tryz.isAgg34 rfl (hb2.at.get 0 rfl)) ?_
  refine Rg_run rfl (o_llen Tryz.underlying34 rfl) ?_
  refine Rg_run rfl (o_moveh (v := .int _ _) rfl) ?_
  refine Rg_run rfl (o_quoZ (b := 64) rfl rfl (by omega) (by omega) (by unfold I64; omega)) ?_
  refine Rg_run rfl (o_add rfl rfl (by unfold I64; omega)) ?_
  refine Rg_run rfl (o_maxTo (b := 1) rfl rfl (with_max hi)) ?_
  refine Rg_make (m := (wl (s.x ||| oneW i)).length) (0 : W64) rfl encU_ok el_word rfl rfl rfl (by omega) ?_
  intro a25 w13 x14 hown25
  have z15 := Bel.size x14
  replace hX := Bel.ex hX x14
  replace hs := hs.ext x14
  replace hb2 := hb2.ext x14
  replace hb4 := hb4.ext x14
  replace hown25 := hown25.mono (D' := fun g => n0 ≤ g) (fun g h1 h2 => by omega)
  have e1 : List.replicate (wl (s.x ||| oneW i)).length (0 : W64) = [0] := by rw [hm1]; rfl
  rw [e1] at hown25
  refine Rg_run rfl (o_assignh (v := .slice _ _ _) rfl) ?_
  refine Rg_nil (W_seq (W_region ?_))
  refine Rg_run rfl (o_moveh (v := .slice _ _ _) rfl) ?_
  refine Rg_run rfl (o_fa Tryz.underlying36 rfl Tryz.sizeOf34 rfl) ?_
  refine Rg_run rfl (o_load1 Tryz.isAgg34 rfl (hb2.at.get 0 rfl)) ?_
  refine Rg_copy rfl encU_ok el_word rfl rfl hown25 hs (by have := wl_len s.x; simp; omega) ?_
  intro w16 x17 hown25
  have z18 := Bel.size x17
  replace hX := Bel.out hX x17 (fun g h1 h2 => by first | exact h2 | omega)
  replace hb4 := hb4.keep x17 (fun h => by omega)
  refine Rg_nil (W_seq ?_)
  rw [wl_pad] at hown25
  apply W_draw (β := False) [peq _, peq _, peq _, peq _, peq _, peq _, peq _, peq _, peq _, peq _] 10 mixed (by kernel_rfl) rfl ⟨peq_stable _, peq_stable _, peq_stable _, peq_stable _, peq_stable _, peq_stable _, peq_stable _, peq_stable _, peq_stable _, peq_stable _, trivial⟩ ?ob5 ?fin5
  case ob5 =>
    refine OblL_cons (fun w19 x20 => ?_) ?_
    · skip
      have z21 := Bel.size x20
      refine bindP_nil ?_
      exact OpS_v rfl (o_moveh (v := .slice _ _ _) rfl)
    refine OblL_cons (fun w22 x23 => ?_) ?_
    · skip
      have z24 := Bel.size x23
      refine bindP_nil ?_
      exact OpS_v rfl (o_moveh (v := .int _ _) rfl)
    refine OblL_cons (fun w25 x26 => ?_) ?_
    · skip
      have z27 := Bel.size x26
      refine bindP_eq (bindP_nil ?_)
      exact OpS_v rfl (o_quoZ (b := 64) rfl rfl (by omega) (by omega) (by unfold I64; omega))
    refine OblL_cons (fun w28 x29 => ?_) ?_
    · skip
      have z30 := Bel.size x29
      have hown25 := hown25.ext x29
      refine bindP_eq (bindP_eq (bindP_nil ?_))
      exact OpS_v rfl (o_iaO (i := 0) Tryz.underlying34 Tryz.sizeOf50 hown25 rfl rfl (by omega))
    refine OblL_cons (fun w31 x32 => ?_) ?_
    · skip
      have z33 := Bel.size x32
      have hown25 := hown25.ext x32
      refine bindP_eq (bindP_nil ?_)
      exact OpS_v rfl (o_ldR Tryz.isAgg50 (hown25.slA encU_ok) rfl rfl (i := 0) rfl rfl)
    refine OblL_cons (fun w34 x35 => ?_) ?_
    · skip
      have z36 := Bel.size x35
      refine bindP_nil ?_
      exact OpS_v rfl (o_moveh (v := .int _ _) rfl)
    refine OblL_cons (fun w37 x38 => ?_) ?_
    · skip
      have z39 := Bel.size x38
      refine bindP_eq (bindP_nil ?_)
      exact OpS_v rfl (o_remT (b := 64) rfl rfl (by omega) (by decide) (by unfold I64; omega))
    refine OblL_cons (fun w40 x41 => ?_) ?_
    · skip
      have z42 := Bel.size x41
      refine bindP_eq (bindP_nil ?_)
      exact OpS_v rfl (o_shlU (a := BitVec.ofNat 64 1) rfl rfl (Nat.mod_lt _ (by decide)))
    refine OblL_cons (fun w43 x44 => ?_) ?_
    · skip
      have z45 := Bel.size x44
      refine bindP_eq (bindP_eq (bindP_nil ?_))
      exact OpS_v rfl (o_bor rfl rfl)
    refine OblL_cons (fun w46 x47 => ?_) ?_
    · skip
      have z48 := Bel.size x47
      have hown25 := hown25.ext x47
      refine bindP_eq (bindP_eq (bindP_eq (bindP_eq (bindP_eq (bindP_eq (bindP_eq (bindP_eq (bindP_eq ?_))))))))
      refine bindP_eq (bindP_eq (bindP_nil ?_))
      exact OpS_v rfl (o_iaO (i := 0) Tryz.underlying34 Tryz.sizeOf50 hown25 rfl rfl (by omega))
    exact OblL_nil
  case fin5 =>
    intro w49 x50
    have z51 := Bel.size x50
    replace hX := Bel.ex hX x50
    replace hb4 := hb4.ext x50
    replace hown25 := hown25.ext x50
    refine bindP_eq (bindP_eq (bindP_eq (bindP_eq (bindP_eq (bindP_eq (bindP_eq (bindP_eq (bindP_eq ?_))))))))
    refine bindP_eq (bindP_nil ?_)
    refine Rg_elst (u := s.x ||| (1#64 <<< ((i : Int).toNat % 64))) rfl encU_ok Tryz.sizeOf50 rfl rfl rfl hown25 (by simp) ?_
    intro w52 x53 hown25
    have z54 := Bel.size x53
    replace hX := Bel.out hX x53 (fun g h1 h2 => by first | exact h2 | omega)
    replace hb4 := hb4.keep x53 (fun h => by omega)
    refine Rg_nil (W_seq (W_region ?_))
    refine Rg_run rfl (o_moveh (v := .slice _ _ _) rfl) ?_
    refine Rg_run rfl (o_build (cells := encSV ⟨a25, (wl (s.x ||| oneW i)).length, (s.x ||| oneW i)⟩) (vs := [(0, .slice _ _ _)]) rfl (by kernel_rfl)) ?_
    refine Rg_storeW (v := .agg _) rfl Tryz.sizeOf36 rfl rfl hb4 rfl rfl rfl ?_
    intro w55 c56 hb4
    change Box _ _ _ (encSV _) at hb4
    have z57 := Bel.size c56
    replace hX := Bel.out hX c56 (fun g h1 h2 => by first | exact h2 | omega)
    replace hown25 := hown25.keepD c56 (fun g h1 h2 h3 => by omega)
    refine Rg_nil (W_ret ?_)
    refine ⟨_, res_1 (v := .agg _) rfl (rv_cellS Tryz.isAgg36 Tryz.sizeOf36 rfl hb4.at rfl), ?_⟩
    have e2 : (i : Int).toNat % 64 = i := by omega
    rw [e2] at hown25
    have h := (hown25.slA encU_ok).mono (F' := fun g => Gs g ∨ Fsh w w55 g) (fun g h1 h2 => Or.inr ⟨by omega, by omega⟩)
    have e3 : ([s.x] : List W64).set 0 (s.x ||| 1#64 <<< i) = wl (s.x ||| oneW i) := by rw [wl_some (with_ne hi)]; rfl
    rw [e3] at h
    exact ⟨_, _, rfl, h, hX⟩

theorem bor_ok (w : World) (s : SV) (Gs : Nat → Prop) (hs : Sl encU 1 Gs w s.a s.c (wl s.x)) (o : SV) (Go : Nat → Prop) (ho : Sl encU 1 Go w o.a o.c (wl o.x)) : Ok Tryz.prog 73 #[.agg (encSV s).toArray, .agg (encSV o).toArray] w fun v w' => ∃ a c, v = .agg (encSV ⟨a, c, s.x ||| o.x⟩).toArray ∧ Sl encU 1 (Fsh w w') w' a c (wl (s.x ||| o.x)) ∧ Ext False w w' := by
  replace hs := hs.mono (F' := fun g => Gs g ∧ g < w.heap.size) (fun g h1 h2 => ⟨h2, h1⟩)
  replace ho := ho.mono (F' := fun g => Go g ∧ g < w.heap.size) (fun g h1 h2 => ⟨h2, h1⟩)
  refine Ok_of_W 33 Tryz.func73 rfl rfl rfl ?_
  have hX : Ext False w w := Bel.refl _ _
  refine W_seq (W_region ?_)
  refine Rg_newB rfl (o_box (v := .agg _) rfl) ?_
  intro b2 w1 x2 hge2 hb2
  have hlt2 := hb2.lt
  change Box _ _ _ (encSV _) at hb2
  have z3 := Bel.size x2
  replace hX := Bel.ex hX x2
  replace hs := hs.ext x2
  replace ho := ho.ext x2
  refine Rg_newB rfl (o_box (v := .agg _) rfl) ?_
  intro b3 w4 x5 hge3 hb3
  have hlt3 := hb3.lt
  change Box _ _ _ (encSV _) at hb3
  have z6 := Bel.size x5
  replace hX := Bel.ex hX x5
  replace hs := hs.ext x5
  replace ho := ho.ext x5
  replace hb2 := hb2.ext x5
  refine Rg_newB rfl (o_alloc Tryz.zeroValue36) ?_
  intro b4 w7 x8 hge4 hb4
  have hlt4 := hb4.lt
  change Box _ _ _ ([.slice _ _ _]) at hb4
  have z9 := Bel.size x8
  replace hX := Bel.ex hX x8
  replace hs := hs.ext x8
  replace ho := ho.ext x8
  replace hb2 := hb2.ext x8
  replace hb3 := hb3.ext x8
  refine Rg_nil (W_seq (W_region ?_))
  obtain ⟨n0, hn0⟩ : ∃ n, n = w7.heap.size := ⟨_, rfl⟩
  refine Rg_run rfl (o_fa Tryz.underlying36 rfl Tryz.sizeOf34 rfl) ?_
  refine Rg_run rfl (o_load1 Tryz.isAgg34 rfl (hb2.at.get 0 rfl)) ?_
  refine Rg_run rfl (o_llen Tryz.underlying34 rfl) ?_
  refine Rg_run rfl (o_fa Tryz.underlying36 rfl Tryz.sizeOf34 rfl) ?_
  refine Rg_run rfl (o_load1 Tryz.isAgg34 rfl (hb3.at.get 0 rfl)) ?_
  refine Rg_run rfl (o_llen Tryz.underlying34 rfl) ?_
  refine Rg_run rfl (o_maxTo rfl rfl (or_max s.x o.x)) ?_
  refine Rg_make (m := (wl (s.x ||| o.x)).length) (0 : W64) rfl encU_ok el_word rfl rfl rfl (by have := wl_len (s.x ||| o.x); omega) ?_
  intro a14 w10 x11 hown14
  have z12 := Bel.size x11
  replace hX := Bel.ex hX x11
  replace hs := hs.ext x11
  replace ho := ho.ext x11
  replace hb2 := hb2.ext x11
  replace hb3 := hb3.ext x11
  replace hb4 := hb4.ext x11
  replace hown14 := hown14.mono (D' := fun g => n0 ≤ g) (fun g h1 h2 => by omega)
  refine Rg_run rfl (o_assignh (v := .slice _ _ _) rfl) ?_
  refine Rg_nil (W_seq (W_seq (W_region ?_)))
  refine Rg_run rfl (o_moveh (v := .slice _ _ _) rfl) ?_
  refine Rg_run rfl (o_llen Tryz.underlying34 rfl) ?_
  refine Rg_run rfl o_movec ?_
  refine Rg_nil (W_block ?_)
  refine W_for (α := Nat) [(6, 6), (17, 30)] (fun k => [(17, .int .i64 (k : Int))]) (fun k w' => (k ≤ (wl (s.x ||| o.x)).length) ∧ Bel False (fun g => n0 ≤ g) w10 w' ∧ (Own encU 1 50 (fun g => n0 ≤ g) w' (.slice a14 (wl (s.x ||| o.x)).length (wl (s.x ||| o.x)).length) (orL s.x o.x k))) (fun k => (wl (s.x ||| o.x)).length - k) 0 ⟨rfl, trivial⟩ ⟨Nat.zero_le _, Bel.refl _ _, (show Own _ _ _ _ _ _ (orL s.x o.x 0) from hown14)⟩ ?_
  rintro k fb15 w14 ⟨hk, hXL13, hown14⟩
  have z16 := Bel.size hXL13
  replace hX := Bel.out hX hXL13 (fun g h1 h2 => by first | exact h2 | omega)
  replace hs := hs.keep hXL13 (fun g h1 h2 h3 => by omega)
  replace ho := ho.keep hXL13 (fun g h1 h2 h3 => by omega)
  replace hb2 := hb2.keep hXL13 (fun h => by omega)
  replace hb3 := hb3.keep hXL13 (fun h => by omega)
  replace hb4 := hb4.keep hXL13 (fun h => by omega)
  have hl1 := wl_len (s.x ||| o.x)
  refine W_seq (W_region ?_)
  refine Rg_run rfl (o_lss rfl rfl) ?_
  refine Rg_nil (W_seq ?_)
  refine W_cond rfl (fun hc1 => ?_) (fun hc1 => ?_)
  · skip
    replace hc1 := of_decide_eq_true hc1
    have hk0 : k = 0 := by omega
    subst hk0
    have hst := or_start hc1
    rw [hst.1] at hown14
    refine W_skip (W_seq (W_block (W_seq (W_region ?_))))
    refine Rg_run rfl (o_moveh (v := .int _ _) rfl) ?_
    refine Rg_run rfl (o_assignh (v := .int _ _) rfl) ?_
    refine Rg_nil ?_
    apply W_draw (β := False) [peq _, peq _, peq _, peq _, peq _, peq _, peq _, peq _, peq _, peq _] 10 mixed (by kernel_rfl) rfl ⟨peq_stable _, peq_stable _, peq_stable _, peq_stable _, peq_stable _, peq_stable _, peq_stable _, peq_stable _, peq_stable _, peq_stable _, trivial⟩ ?ob5 ?fin5
    case ob5 =>
      refine OblL_cons (fun w17 x18 => ?_) ?_
      · skip
        have z19 := Bel.size x18
        refine bindP_nil ?_
        exact OpS_v rfl (o_moveh (v := .slice _ _ _) rfl)
      refine OblL_cons (fun w20 x21 => ?_) ?_
      · skip
        have z22 := Bel.size x21
        refine bindP_nil ?_
        exact OpS_v rfl (o_moveh (v := .int _ _) rfl)
      refine OblL_cons (fun w23 x24 => ?_) ?_
      · skip
        have z25 := Bel.size x24
        have hb2 := hb2.ext x24
        refine bindP_nil ?_
        exact OpS_v rfl (o_loadS Tryz.isAgg36 Tryz.sizeOf36 rfl hb2.at rfl)
      refine OblL_cons (fun w26 x27 => ?_) ?_
      · skip
        have z28 := Bel.size x27
        refine bindP_nil ?_
        exact OpS_v rfl (o_moveh (v := .int _ _) rfl)
      refine OblL_cons (fun w29 x30 => ?_) ?_
      · skip
        have z31 := Bel.size x30
        have hs := hs.ext x30
        refine bindP_eq (bindP_eq (bindP_nil ?_))
        exact OpS_call rfl (o_call2 Tryz.call95 rfl rfl) (bword_ok _ ⟨_, _, _⟩ _ hs 0)
      refine OblL_cons (fun w32 x33 => ?_) ?_
      · skip
        have z34 := Bel.size x33
        have hb3 := hb3.ext x33
        refine bindP_nil ?_
        exact OpS_v rfl (o_loadS Tryz.isAgg36 Tryz.sizeOf36 rfl hb3.at rfl)
      refine OblL_cons (fun w35 x36 => ?_) ?_
      · skip
        have z37 := Bel.size x36
        refine bindP_nil ?_
        exact OpS_v rfl (o_moveh (v := .int _ _) rfl)
      refine OblL_cons (fun w38 x39 => ?_) ?_
      · skip
        have z40 := Bel.size x39
        have ho := ho.ext x39
        refine bindP_eq (bindP_eq (bindP_eq (bindP_nil ?_)))
        exact OpS_call rfl (o_call2 Tryz.call95 rfl rfl) (bword_ok _ ⟨_, _, _⟩ _ ho 0)
      refine OblL_cons (fun w41 x42 => ?_) ?_
      · skip
        have z43 := Bel.size x42
        refine bindP_eq (bindP_eq (bindP_nil ?_))
        exact OpS_v rfl (o_bor rfl rfl)
      refine OblL_cons (fun w44 x45 => ?_) ?_
      · skip
        have z46 := Bel.size x45
        have hown14 := hown14.ext x45
        refine bindP_eq (bindP_eq (bindP_eq (bindP_eq (bindP_eq (bindP_eq (bindP_eq (bindP_eq (bindP_eq ?_))))))))
        refine bindP_eq (bindP_eq (bindP_nil ?_))
        exact OpS_v rfl (o_iaO (i := 0) Tryz.underlying34 Tryz.sizeOf50 hown14 rfl rfl (by omega))
      exact OblL_nil
    case fin5 =>
      intro w47 x48
      have z49 := Bel.size x48
      replace hX := Bel.ex hX x48
      replace hXL13 := Bel.ex hXL13 x48
      replace hown14 := hown14.ext x48
      refine bindP_eq (bindP_eq (bindP_eq (bindP_eq (bindP_eq (bindP_eq (bindP_eq (bindP_eq (bindP_eq ?_))))))))
      refine bindP_eq (bindP_nil ?_)
      refine Rg_elst (u := (wl s.x).getD 0 0 ||| (wl o.x).getD 0 0) rfl encU_ok Tryz.sizeOf50 rfl rfl rfl hown14 (by simp) ?_
      intro w50 x51 hown14
      have z52 := Bel.size x51
      replace hX := Bel.out hX x51 (fun g h1 h2 => by first | exact h2 | omega)
      replace hXL13 := Bel.out hXL13 x51 (fun g h1 h2 => by first | exact h2 | omega)
      refine Rg_nil (W_region ?_)
      refine Rg_run rfl (o_add rfl rfl (by first | omega | (unfold I64; omega) | (simp; done) | (simp; omega) | (simp at *; omega))) ?_
      refine Rg_run rfl (o_moveh (v := .int _ _) rfl) ?_
      refine Rg_nil ?_
      refine ⟨1, ⟨?_, trivial⟩, ?_, ⟨?_, hXL13, ?_⟩, ?_⟩
      · first | rfl | (go_num) | (exact congrArg _ (by omega))
      · repeat (first | exact off_refl _ _ | exact off_mix | refine off_put rfl ?_ | refine off_putN ?_ | refine off_setL rfl ?_ | refine off_mix' rfl ?_)
      · show 1 ≤ (wl (s.x ||| o.x)).length; omega
      · rw [or_one hst.2]; exact hown14
      · omega
  replace hc1 := of_decide_eq_false hc1
  refine W_exit (exAt_hit (W_seq (W_region ?_)))
  refine Rg_run rfl (o_moveh (v := .slice _ _ _) rfl) ?_
  refine Rg_run rfl (o_build (cells := encSV ⟨a14, (wl (s.x ||| o.x)).length, (s.x ||| o.x)⟩) (vs := [(0, .slice _ _ _)]) rfl (by kernel_rfl)) ?_
  refine Rg_storeW (v := .agg _) rfl Tryz.sizeOf36 rfl rfl hb4 rfl rfl rfl ?_
  intro w53 c54 hb4
  change Box _ _ _ (encSV _) at hb4
  have z55 := Bel.size c54
  replace hX := Bel.out hX c54 (fun g h1 h2 => by first | exact h2 | omega)
  replace hown14 := hown14.keepD c54 (fun g h1 h2 h3 => by omega)
  refine Rg_nil (W_ret ?_)
  refine ⟨_, res_1 (v := .agg _) rfl (rv_cellS Tryz.isAgg36 Tryz.sizeOf36 rfl hb4.at rfl), ?_⟩
  rw [or_end hc1] at hown14; exact ⟨_, _, rfl, (hown14.slA encU_ok).mono (fun g h1 h2 => ⟨by omega, by omega⟩), hX⟩

theorem band_ok (w : World) (s : SV) (Gs : Nat → Prop) (hs : Sl encU 1 Gs w s.a s.c (wl s.x)) (o : SV) (Go : Nat → Prop) (ho : Sl encU 1 Go w o.a o.c (wl o.x)) : Ok Tryz.prog 76 #[.agg (encSV s).toArray, .agg (encSV o).toArray] w fun v w' => ∃ a c, v = .agg (encSV ⟨a, c, s.x &&& o.x⟩).toArray ∧ Sl encU 1 (Fsh w w') w' a c (wl (s.x &&& o.x)) ∧ Ext False w w' := by
  replace hs := hs.mono (F' := fun g => Gs g ∧ g < w.heap.size) (fun g h1 h2 => ⟨h2, h1⟩)
  replace ho := ho.mono (F' := fun g => Go g ∧ g < w.heap.size) (fun g h1 h2 => ⟨h2, h1⟩)
  refine Ok_of_W 37 Tryz.func76 rfl rfl rfl ?_
  have hX : Ext False w w := Bel.refl _ _
  refine W_seq (W_region ?_)
  refine Rg_newB rfl (o_box (v := .agg _) rfl) ?_
  intro b2 w1 x2 hge2 hb2
  have hlt2 := hb2.lt
  change Box _ _ _ (encSV _) at hb2
  have z3 := Bel.size x2
  replace hX := Bel.ex hX x2
  replace hs := hs.ext x2
  replace ho := ho.ext x2
  refine Rg_newB rfl (o_box (v := .agg _) rfl) ?_
  intro b3 w4 x5 hge3 hb3
  have hlt3 := hb3.lt
  change Box _ _ _ (encSV _) at hb3
  have z6 := Bel.size x5
  replace hX := Bel.ex hX x5
  replace hs := hs.ext x5
  replace ho := ho.ext x5
  replace hb2 := hb2.ext x5
  refine Rg_newB rfl (o_alloc Tryz.zeroValue36) ?_
  intro b4 w7 x8 hge4 hb4
  have hlt4 := hb4.lt
  change Box _ _ _ ([.slice _ _ _]) at hb4
  have z9 := Bel.size x8
  replace hX := Bel.ex hX x8
  replace hs := hs.ext x8
  replace ho := ho.ext x8
  replace hb2 := hb2.ext x8
  replace hb3 := hb3.ext x8
  refine Rg_nil (W_seq (W_region ?_))
  obtain ⟨n0, hn0⟩ : ∃ n, n = w7.heap.size := ⟨_, rfl⟩
  refine Rg_run rfl (o_fa Tryz.underlying36 rfl Tryz.sizeOf34 rfl) ?_
  refine Rg_run rfl (o_load1 Tryz.isAgg34 rfl (hb2.at.get 0 rfl)) ?_
  refine Rg_run rfl (o_llen Tryz.underlying34 rfl) ?_
  refine Rg_run rfl (o_fa Tryz.underlying36 rfl Tryz.sizeOf34 rfl) ?_
  refine Rg_run rfl (o_load1 Tryz.isAgg34 rfl (hb3.at.get 0 rfl)) ?_
  refine Rg_run rfl (o_llen Tryz.underlying34 rfl) ?_
  refine Rg_run rfl ((o_minN rfl rfl).trans (by rw [and_min])) ?_
  refine Rg_make (m := (andW s.x o.x).length) (0 : W64) rfl encU_ok el_word rfl rfl rfl (by have := andW_len s.x o.x; omega) ?_
  intro a14 w10 x11 hown14
  have z12 := Bel.size x11
  replace hX := Bel.ex hX x11
  replace hs := hs.ext x11
  replace ho := ho.ext x11
  replace hb2 := hb2.ext x11
  replace hb3 := hb3.ext x11
  replace hb4 := hb4.ext x11
  replace hown14 := hown14.mono (D' := fun g => n0 ≤ g) (fun g h1 h2 => by omega)
  refine Rg_run rfl (o_assignh (v := .slice _ _ _) rfl) ?_
  refine Rg_nil (W_seq (W_seq (W_region ?_)))
  refine Rg_run rfl (o_moveh (v := .slice _ _ _) rfl) ?_
  refine Rg_run rfl (o_llen Tryz.underlying34 rfl) ?_
  refine Rg_run rfl o_movec ?_
  refine Rg_nil (W_block ?_)
  refine W_for (α := Nat) [(6, 6), (17, 34)] (fun k => [(17, .int .i64 (k : Int))]) (fun k w' => (k ≤ (andW s.x o.x).length) ∧ Bel False (fun g => n0 ≤ g) w10 w' ∧ (Own encU 1 50 (fun g => n0 ≤ g) w' (.slice a14 (andW s.x o.x).length (andW s.x o.x).length) (andLs s.x o.x k))) (fun k => (andW s.x o.x).length - k) 0 ⟨rfl, trivial⟩ ⟨Nat.zero_le _, Bel.refl _ _, (show Own _ _ _ _ _ _ (andLs s.x o.x 0) from hown14)⟩ ?_
  rintro k fb15 w14 ⟨hk, hXL13, hown14⟩
  have z16 := Bel.size hXL13
  replace hX := Bel.out hX hXL13 (fun g h1 h2 => by first | exact h2 | omega)
  replace hs := hs.keep hXL13 (fun g h1 h2 h3 => by omega)
  replace ho := ho.keep hXL13 (fun g h1 h2 h3 => by omega)
  replace hb2 := hb2.keep hXL13 (fun h => by omega)
  replace hb3 := hb3.keep hXL13 (fun h => by omega)
  replace hb4 := hb4.keep hXL13 (fun h => by omega)
  have hl1 := andW_len s.x o.x
  refine W_seq (W_region ?_)
  refine Rg_run rfl (o_lss rfl rfl) ?_
  refine Rg_nil (W_seq ?_)
  refine W_cond rfl (fun hc1 => ?_) (fun hc1 => ?_)
  · skip
    replace hc1 := of_decide_eq_true hc1
    have hk0 : k = 0 := by omega
    subst hk0
    have hst := and_start hc1
    rw [hst.1] at hown14
    refine W_skip (W_seq (W_block (W_seq (W_region ?_))))
    refine Rg_run rfl (o_moveh (v := .int _ _) rfl) ?_
    refine Rg_run rfl (o_assignh (v := .int _ _) rfl) ?_
    refine Rg_nil ?_
    apply W_draw (β := False) [peq _, peq _, peq _, peq _, peq _, peq _, peq _, peq _, peq _, peq _, peq _, peq _, peq _, peq _] 14 mixed (by kernel_rfl) rfl ⟨peq_stable _, peq_stable _, peq_stable _, peq_stable _, peq_stable _, peq_stable _, peq_stable _, peq_stable _, peq_stable _, peq_stable _, peq_stable _, peq_stable _, peq_stable _, peq_stable _, trivial⟩ ?ob5 ?fin5
    case ob5 =>
      refine OblL_cons (fun w17 x18 => ?_) ?_
      · skip
        have z19 := Bel.size x18
        refine bindP_nil ?_
        exact OpS_v rfl (o_moveh (v := .slice _ _ _) rfl)
      refine OblL_cons (fun w20 x21 => ?_) ?_
      · skip
        have z22 := Bel.size x21
        refine bindP_nil ?_
        exact OpS_v rfl (o_moveh (v := .int _ _) rfl)
      refine OblL_cons (fun w23 x24 => ?_) ?_
      · skip
        have z25 := Bel.size x24
        refine bindP_nil ?_
        exact OpS_v rfl (o_fa Tryz.underlying36 rfl Tryz.sizeOf34 rfl)
      refine OblL_cons (fun w26 x27 => ?_) ?_
      · skip
        have z28 := Bel.size x27
        have hb2 := hb2.ext x27
        refine bindP_eq (bindP_nil ?_)
        exact OpS_v rfl (o_load1 Tryz.isAgg34 rfl (hb2.at.get 0 rfl))
      refine OblL_cons (fun w29 x30 => ?_) ?_
      · skip
        have z31 := Bel.size x30
        refine bindP_nil ?_
        exact OpS_v rfl (o_moveh (v := .int _ _) rfl)
      refine OblL_cons (fun w32 x33 => ?_) ?_
      · skip
        have z34 := Bel.size x33
        have hs := hs.ext x33
        refine bindP_eq (bindP_eq (bindP_nil ?_))
        exact OpS_v rfl (o_iaR (i := 0) Tryz.underlying34 Tryz.sizeOf50 hs rfl rfl hst.2.2.1)
      refine OblL_cons (fun w35 x36 => ?_) ?_
      · skip
        have z37 := Bel.size x36
        have hs := hs.ext x36
        refine bindP_eq (bindP_nil ?_)
        exact OpS_v rfl (o_ldR Tryz.isAgg50 hs rfl rfl (getE 0 hst.2.2.1) rfl)
      refine OblL_cons (fun w38 x39 => ?_) ?_
      · skip
        have z40 := Bel.size x39
        refine bindP_nil ?_
        exact OpS_v rfl (o_fa Tryz.underlying36 rfl Tryz.sizeOf34 rfl)
      refine OblL_cons (fun w41 x42 => ?_) ?_
      · skip
        have z43 := Bel.size x42
        have hb3 := hb3.ext x42
        refine bindP_eq (bindP_nil ?_)
        exact OpS_v rfl (o_load1 Tryz.isAgg34 rfl (hb3.at.get 0 rfl))
      refine OblL_cons (fun w44 x45 => ?_) ?_
      · skip
        have z46 := Bel.size x45
        refine bindP_nil ?_
        exact OpS_v rfl (o_moveh (v := .int _ _) rfl)
      refine OblL_cons (fun w47 x48 => ?_) ?_
      · skip
        have z49 := Bel.size x48
        have ho := ho.ext x48
        refine bindP_eq (bindP_eq (bindP_nil ?_))
        exact OpS_v rfl (o_iaR (i := 0) Tryz.underlying34 Tryz.sizeOf50 ho rfl rfl hst.2.2.2)
      refine OblL_cons (fun w50 x51 => ?_) ?_
      · skip
        have z52 := Bel.size x51
        have ho := ho.ext x51
        refine bindP_eq (bindP_nil ?_)
        exact OpS_v rfl (o_ldR Tryz.isAgg50 ho rfl rfl (getE 0 hst.2.2.2) rfl)
      refine OblL_cons (fun w53 x54 => ?_) ?_
      · skip
        have z55 := Bel.size x54
        refine bindP_eq (bindP_eq (bindP_nil ?_))
        exact OpS_v rfl (o_band rfl rfl)
      refine OblL_cons (fun w56 x57 => ?_) ?_
      · skip
        have z58 := Bel.size x57
        have hown14 := hown14.ext x57
        refine bindP_eq (bindP_eq (bindP_eq (bindP_eq (bindP_eq (bindP_eq (bindP_eq (bindP_eq (bindP_eq ?_))))))))
        refine bindP_eq (bindP_eq (bindP_eq (bindP_eq (bindP_eq (bindP_eq (bindP_nil ?_))))))
        exact OpS_v rfl (o_iaO (i := 0) Tryz.underlying34 Tryz.sizeOf50 hown14 rfl rfl (by omega))
      exact OblL_nil
    case fin5 =>
      intro w59 x60
      have z61 := Bel.size x60
      replace hX := Bel.ex hX x60
      replace hXL13 := Bel.ex hXL13 x60
      replace hown14 := hown14.ext x60
      refine bindP_eq (bindP_eq (bindP_eq (bindP_eq (bindP_eq (bindP_eq (bindP_eq (bindP_eq (bindP_eq ?_))))))))
      refine bindP_eq (bindP_eq (bindP_eq (bindP_eq (bindP_eq (bindP_nil ?_)))))
      refine Rg_elst (u := (wl s.x).getD 0 0 &&& (wl o.x).getD 0 0) rfl encU_ok Tryz.sizeOf50 rfl rfl rfl hown14 (by simp) ?_
      intro w62 x63 hown14
      have z64 := Bel.size x63
      replace hX := Bel.out hX x63 (fun g h1 h2 => by first | exact h2 | omega)
      replace hXL13 := Bel.out hXL13 x63 (fun g h1 h2 => by first | exact h2 | omega)
      refine Rg_nil (W_region ?_)
      refine Rg_run rfl (o_add rfl rfl (by first | omega | (unfold I64; omega) | (simp; done) | (simp; omega) | (simp at *; omega))) ?_
      refine Rg_run rfl (o_moveh (v := .int _ _) rfl) ?_
      refine Rg_nil ?_
      refine ⟨1, ⟨?_, trivial⟩, ?_, ⟨?_, hXL13, ?_⟩, ?_⟩
      · first | rfl | (go_num) | (exact congrArg _ (by omega))
      · repeat (first | exact off_refl _ _ | exact off_mix | refine off_put rfl ?_ | refine off_putN ?_ | refine off_setL rfl ?_ | refine off_mix' rfl ?_)
      · show 1 ≤ (andW s.x o.x).length; omega
      · rw [_root_.Go.Lx.and_one hst.2.1]; exact hown14
      · omega
  replace hc1 := of_decide_eq_false hc1
  refine W_exit (exAt_hit (W_seq (W_region ?_)))
  rw [and_end hc1] at hown14
  refine Rg_run rfl (o_moveh (v := .slice _ _ _) rfl) ?_
  refine Rg_enter rfl (o_call1 Tryz.call82 rfl) (Ok.mono (btrim_ok _ _ _ (andW s.x o.x) _ (hown14.slA encU_ok) (andW_len _ _)) ?_)
  rintro _ w65 ⟨rfl, x66⟩
  have z67 := Bel.size x66
  replace hX := Bel.ex hX x66
  replace hb4 := hb4.ext x66
  replace hown14 := hown14.ext x66
  refine Rg_storeW (v := .agg _) rfl Tryz.sizeOf36 rfl rfl hb4 rfl rfl rfl ?_
  intro w68 c69 hb4
  change Box _ _ _ (encSV _) at hb4
  have z70 := Bel.size c69
  replace hX := Bel.out hX c69 (fun g h1 h2 => by first | exact h2 | omega)
  replace hown14 := hown14.keepD c69 (fun g h1 h2 h3 => by omega)
  refine Rg_nil (W_ret ?_)
  refine ⟨_, res_1 (v := .agg _) rfl (rv_cellS Tryz.isAgg36 Tryz.sizeOf36 rfl hb4.at rfl), ?_⟩
  rw [show (andW s.x o.x).getD 0 0 = s.x &&& o.x from and_get _ _]
  have h := trim_sl (hown14.slA encU_ok) (andW_len _ _)
  rw [and_get] at h
  exact ⟨_, _, rfl, h.mono (fun g h1 h2 => ⟨by omega, by omega⟩), hX⟩

theorem beq_ok (w : World) (s : SV) (Gs : Nat → Prop) (hs : Sl encU 1 Gs w s.a s.c (wl s.x)) (o : SV) (Go : Nat → Prop) (ho : Sl encU 1 Go w o.a o.c (wl o.x)) : Ok Tryz.prog 34 #[.agg (encSV s).toArray, .agg (encSV o).toArray] w fun v w' => v = .bool (s.x == o.x) ∧ Ext False w w' := by
  replace hs := hs.mono (F' := fun g => Gs g ∧ g < w.heap.size) (fun g h1 h2 => ⟨h2, h1⟩)
  replace ho := ho.mono (F' := fun g => Go g ∧ g < w.heap.size) (fun g h1 h2 => ⟨h2, h1⟩)
  refine Ok_of_W 30 Tryz.func34 rfl rfl rfl ?_
  have hX : Ext False w w := Bel.refl _ _
  refine W_seq (W_region ?_)
  refine Rg_newB rfl (o_box (v := .agg _) rfl) ?_
  intro b2 w1 x2 hge2 hb2
  have hlt2 := hb2.lt
  change Box _ _ _ (encSV _) at hb2
  have z3 := Bel.size x2
  replace hX := Bel.ex hX x2
  replace hs := hs.ext x2
  replace ho := ho.ext x2
  refine Rg_newB rfl (o_box (v := .agg _) rfl) ?_
  intro b3 w4 x5 hge3 hb3
  have hlt3 := hb3.lt
  change Box _ _ _ (encSV _) at hb3
  have z6 := Bel.size x5
  replace hX := Bel.ex hX x5
  replace hs := hs.ext x5
  replace ho := ho.ext x5
  replace hb2 := hb2.ext x5
  refine Rg_run rfl o_assignc ?_
  refine Rg_nil (W_seq (W_seq (W_region ?_)))
  refine Rg_run rfl (o_fa Tryz.underlying36 rfl Tryz.sizeOf34 rfl) ?_
  refine Rg_run rfl (o_load1 Tryz.isAgg34 rfl (hb2.at.get 0 rfl)) ?_
  refine Rg_run rfl (o_llen Tryz.underlying34 rfl) ?_
  refine Rg_run rfl (o_fa Tryz.underlying36 rfl Tryz.sizeOf34 rfl) ?_
  refine Rg_run rfl (o_load1 Tryz.isAgg34 rfl (hb3.at.get 0 rfl)) ?_
  refine Rg_run rfl (o_llen Tryz.underlying34 rfl) ?_
  refine Rg_run rfl (o_neq rfl rfl) ?_
  refine Rg_nil ?_
  refine W_cond rfl (fun hc1 => ?_) (fun hc1 => ?_)
  · skip
    refine W_seq (W_region ?_)
    refine Rg_run rfl o_assignc ?_
    refine Rg_nil (W_ret ?_)
    refine ⟨_, res_tmp rfl rfl, ?_⟩
    refine ⟨congrArg Value.bool ?_, hX⟩
    all_goals (exact (eq_len hc1).symm)
  refine W_skip (W_seq (W_seq (W_region ?_)))
  refine Rg_run rfl (o_fa Tryz.underlying36 rfl Tryz.sizeOf34 rfl) ?_
  refine Rg_run rfl (o_load1 Tryz.isAgg34 rfl (hb2.at.get 0 rfl)) ?_
  refine Rg_run rfl (o_llen Tryz.underlying34 rfl) ?_
  refine Rg_run rfl o_movec ?_
  refine Rg_nil (W_block ?_)
  refine W_for (α := Nat) [(4, 6), (17, 29)] (fun k => [(17, .int .i64 (k : Int))]) (fun k w' => (k ≤ (wl s.x).length ∧ (1 ≤ k → s.x = o.x)) ∧ Ext False w4 w') (fun k => (wl s.x).length - k) 0 ⟨rfl, trivial⟩ ⟨⟨Nat.zero_le _, fun h => by omega⟩, Bel.refl _ _⟩ ?_
  rintro k fb9 w8 ⟨⟨hk, hz⟩, hXL7⟩
  have z10 := Bel.size hXL7
  replace hX := Bel.ex hX hXL7
  replace hs := hs.ext hXL7
  replace ho := ho.ext hXL7
  replace hb2 := hb2.ext hXL7
  replace hb3 := hb3.ext hXL7
  refine W_seq (W_region ?_)
  refine Rg_run rfl (o_lss rfl rfl) ?_
  refine Rg_nil (W_seq ?_)
  refine W_cond rfl (fun hc2 => ?_) (fun hc2 => ?_)
  · skip
    replace hc2 := of_decide_eq_true hc2; have hkm : k < (wl s.x).length := by omega
    have hlo : (wl s.x).length = (wl o.x).length := by simp at hc1; omega
    refine W_skip (W_seq (W_block (W_seq (W_region ?_))))
    refine Rg_run rfl (o_moveh (v := .int _ _) rfl) ?_
    refine Rg_run rfl (o_iaR Tryz.underlying34 Tryz.sizeOf50 hs rfl rfl (by first | omega | (unfold I64; omega) | (simp; done) | (simp; omega) | (simp at *; omega))) ?_
    refine Rg_run rfl (o_ldR Tryz.isAgg50 hs rfl rfl (getE 0 (by omega)) rfl) ?_
    refine Rg_run rfl (o_assignh (v := .int _ _) rfl) ?_
    refine Rg_run rfl (o_assignh (v := .int _ _) rfl) ?_
    refine Rg_nil (W_seq (W_region ?_))
    refine Rg_run rfl (o_moveh (v := .int _ _) rfl) ?_
    refine Rg_run rfl (o_fa Tryz.underlying36 rfl Tryz.sizeOf34 rfl) ?_
    refine Rg_run rfl (o_load1 Tryz.isAgg34 rfl (hb3.at.get 0 rfl)) ?_
    refine Rg_run rfl (o_moveh (v := .int _ _) rfl) ?_
    refine Rg_run rfl (o_iaR Tryz.underlying34 Tryz.sizeOf50 ho rfl rfl (by first | omega | (unfold I64; omega) | (simp; done) | (simp; omega) | (simp at *; omega))) ?_
    refine Rg_run rfl (o_ldR Tryz.isAgg50 ho rfl rfl (getE 0 (by omega)) rfl) ?_
    refine Rg_run rfl (o_neU rfl rfl) ?_
    refine Rg_nil ?_
    refine W_cond rfl (fun hc3 => ?_) (fun hc3 => ?_)
    · skip
      refine W_seq (W_region ?_)
      refine Rg_run rfl o_assignc ?_
      refine Rg_nil (W_ret ?_)
      refine ⟨_, res_tmp rfl rfl, ?_⟩
      refine ⟨congrArg Value.bool ?_, hX⟩
      all_goals (exact (eq_ne hkm hc3).symm)
    refine W_skip (W_region ?_)
    refine Rg_run rfl (o_add rfl rfl (by have := wl_len s.x; unfold I64; omega)) ?_
    refine Rg_run rfl (o_moveh (v := .int _ _) rfl) ?_
    refine Rg_nil ?_
    refine ⟨k + 1, ⟨?_, trivial⟩, ?_, ⟨?_, hXL7⟩, ?_⟩
    · first | rfl | (go_num) | (exact congrArg _ (by omega))
    · repeat (first | exact off_refl _ _ | exact off_mix | refine off_put rfl ?_ | refine off_putN ?_ | refine off_setL rfl ?_ | refine off_mix' rfl ?_)
    · exact ⟨by omega, fun _ => eq_step hkm hc3⟩
    · omega
  replace hc2 := of_decide_eq_false hc2
  refine W_exit (exAt_hit (W_seq (W_region ?_)))
  refine Rg_run rfl o_assignc ?_
  refine Rg_nil (W_ret ?_)
  refine ⟨_, res_tmp rfl rfl, ?_⟩
  refine ⟨congrArg Value.bool ?_, hX⟩
  all_goals (exact (eq_end hc1 hc2 hz).symm)

theorem bempty_ok (w : World) (s : SV) (Gs : Nat → Prop) (hs : Sl encU 1 Gs w s.a s.c (wl s.x)) : Ok Tryz.prog 35 #[.agg (encSV s).toArray] w fun v w' => v = .bool (s.x == 0) ∧ Ext False w w' := by
  replace hs := hs.mono (F' := fun g => Gs g ∧ g < w.heap.size) (fun g h1 h2 => ⟨h2, h1⟩)
  refine Ok_of_W 7 Tryz.func35 rfl rfl rfl ?_
  have hX : Ext False w w := Bel.refl _ _
  refine W_seq (W_region ?_)
  refine Rg_newB rfl (o_box (v := .agg _) rfl) ?_
  intro b1 w1 x2 hge1 hb1
  have hlt1 := hb1.lt
  change Box _ _ _ (encSV _) at hb1
  have z3 := Bel.size x2
  replace hX := Bel.ex hX x2
  replace hs := hs.ext x2
  refine Rg_run rfl o_assignc ?_
  refine Rg_nil (W_seq (W_region ?_))
  refine Rg_run rfl (o_fa Tryz.underlying36 rfl Tryz.sizeOf34 rfl) ?_
  refine Rg_run rfl (o_load1 Tryz.isAgg34 rfl (hb1.at.get 0 rfl)) ?_
  refine Rg_run rfl (o_llen Tryz.underlying34 rfl) ?_
  refine Rg_run rfl (o_eql rfl rfl) ?_
  refine Rg_run rfl (o_assignh (v := .bool _) rfl) ?_
  refine Rg_nil (W_ret ?_)
  refine ⟨_, res_tmp rfl rfl, ?_⟩
  refine ⟨congrArg Value.bool ?_, hX⟩
  all_goals (exact empty_eq s.x)

theorem rmem_ok (n : W64) (w : World) : Ok Tryz.prog 61 #[u64 n] w fun v w' => Own encJ 1 3 (Fsh w w') w' v (memW n 64) ∧ Ext False w w' := by
  refine Ok_of_W 19 Tryz.func61 rfl rfl rfl ?_
  have hX : Ext False w w := Bel.refl _ _
  refine W_seq (W_region ?_)
  refine Rg_run rfl o_assignc ?_
  refine Rg_nil (W_seq (W_region ?_))
  refine Rg_run rfl o_assignc ?_
  refine Rg_nil (W_seq (W_seq (W_region ?_)))
  refine Rg_run rfl o_assignc ?_
  refine Rg_nil (W_block ?_)
  refine W_for (α := Nat × Value) [(3, 17)] (fun q => [(4, .int .i64 (q.1 : Int)), (3, q.2)]) (fun q w' => (q.1 ≤ 64) ∧ Bel False (fun g => w.heap.size ≤ g) w w' ∧ (Own encJ 1 3 (fun g => w.heap.size ≤ g) w' q.2 (memW n q.1))) (fun q => 64 - q.1) (0, .slice none 0 0) ⟨rfl, rfl, trivial⟩ ⟨Nat.zero_le _, Bel.refl _ _, Own.nil _ _⟩ ?_
  rintro ⟨k, u⟩ fb3 w2 ⟨hk, hXL1, hown⟩
  dsimp only at *
  have z4 := Bel.size hXL1
  replace hX := Bel.out hX hXL1 (fun g h1 h2 => by first | exact h2 | omega)
  refine W_seq (W_seq (W_region ?_))
  refine Rg_run rfl (o_moveh (v := .int _ _) rfl) ?_
  refine Rg_run rfl (o_lss rfl rfl) ?_
  refine Rg_nil ?_
  refine W_cond rfl (fun hc1 => ?_) (fun hc1 => ?_)
  · skip
    replace hc1 := of_decide_eq_true hc1
    refine W_skip (W_seq (W_block (W_seq (W_region ?_))))
    refine Rg_run rfl (o_moveh (v := .int _ _) rfl) ?_
    refine Rg_run rfl (o_moveh (v := .int _ _) rfl) ?_
    refine Rg_run rfl (o_shrU rfl rfl (by omega)) ?_
    refine Rg_run rfl (o_uremU (b := BitVec.ofNat 64 2) rfl rfl (by decide)) ?_
    refine Rg_run rfl (o_eqU (b := BitVec.ofNat 64 1) rfl rfl) ?_
    refine Rg_nil ?_
    refine W_cond rfl (fun hc2 => ?_) (fun hc2 => ?_)
    · skip
      rw [bit_rem] at hc2
      refine W_region ?_
      refine Rg_run rfl (o_moveh (v := u) rfl) ?_
      refine Rg_run rfl (o_moveh (v := .int _ _) rfl) ?_
      refine Rg_bs (vs := [.int _ _]) ([(k : Int)]) rfl encJ_ok el_int rfl rfl ⟨rfl, trivial⟩ rfl rfl rfl rfl ?_
      intro a16 w5 x6 hown16
      have z7 := Bel.size x6
      replace hX := Bel.ex hX x6
      replace hXL1 := Bel.ex hXL1 x6
      replace hown := hown.ext x6
      replace hown16 := hown16.mono (D' := fun g => w.heap.size ≤ g) (fun g h1 h2 => by omega)
      refine Rg_app rfl encJ_ok el_int rfl rfl hown (hown16.slA encJ_ok) rfl (by have := memW_len n k; simp; omega) (fun g h => by omega) ?_
      intro v17 w8 x9 hown
      have z10 := Bel.size x9
      replace hX := Bel.out hX x9 (fun g h1 h2 => by first | exact h2 | omega)
      replace hXL1 := Bel.out hXL1 x9 (fun g h1 h2 => by first | exact h2 | omega)
      refine Rg_run rfl (o_assignh (v := v17) rfl) ?_
      refine Rg_nil (W_region ?_)
      refine Rg_run rfl (o_moveh (v := .int _ _) rfl) ?_
      refine Rg_run rfl (o_add rfl rfl (by first | omega | (unfold I64; omega) | (simp; done) | (simp; omega) | (simp at *; omega))) ?_
      refine Rg_run rfl (o_assignh (v := .int _ _) rfl) ?_
      refine Rg_nil ?_
      refine ⟨(k + 1, v17), ⟨?_, ?_, trivial⟩, ?_, ⟨?_, hXL1, ?_⟩, ?_⟩
      · first | rfl | (go_num) | (exact congrArg _ (by omega))
      · first | rfl | (go_num) | (exact congrArg _ (by omega))
      · repeat (first | exact off_refl _ _ | exact off_mix | refine off_put rfl ?_ | refine off_putN ?_ | refine off_setL rfl ?_ | refine off_mix' rfl ?_)
      · show k + 1 ≤ 64; omega
      · show Own _ _ _ _ _ _ (memW n (k + 1)); rw [mem_yes hc2]; exact hown
      · show 64 - (k + 1) < 64 - k; omega
    rw [bit_rem] at hc2
    refine W_skip (W_region ?_)
    refine Rg_run rfl (o_moveh (v := .int _ _) rfl) ?_
    refine Rg_run rfl (o_add rfl rfl (by first | omega | (unfold I64; omega) | (simp; done) | (simp; omega) | (simp at *; omega))) ?_
    refine Rg_run rfl (o_assignh (v := .int _ _) rfl) ?_
    refine Rg_nil ?_
    refine ⟨(k + 1, u), ⟨?_, ?_, trivial⟩, ?_, ⟨?_, hXL1, ?_⟩, ?_⟩
    · first | rfl | (go_num) | (exact congrArg _ (by omega))
    · first | rfl | (go_num) | (exact congrArg _ (by omega))
    · repeat (first | exact off_refl _ _ | exact off_mix | refine off_put rfl ?_ | refine off_putN ?_ | refine off_setL rfl ?_ | refine off_mix' rfl ?_)
    · show k + 1 ≤ 64; omega
    · show Own _ _ _ _ _ _ (memW n (k + 1)); rw [mem_no hc2]; exact hown
    · show 64 - (k + 1) < 64 - k; omega
  replace hc1 := of_decide_eq_false hc1
  have hk64 : k = 64 := by omega
  subst hk64
  refine W_exit (exAt_hit (W_seq (W_region ?_)))
  refine Rg_run rfl (o_moveh (v := u) rfl) ?_
  refine Rg_run rfl (o_assignh (v := u) rfl) ?_
  refine Rg_nil (W_ret ?_)
  refine ⟨_, res_tmp rfl rfl, ?_⟩
  exact ⟨hown.mono (fun g h1 h2 => by omega), hX⟩

theorem roles_ok (n : W64) (w : World) : Ok Tryz.prog 24 #[u64 n] w fun v w' => ∃ a c, v = .agg (encSV ⟨a, c, n⟩).toArray ∧ Sl encU 1 (Fsh w w') w' a c (wl n) ∧ Ext False w w' := by
  refine Ok_of_W 6 Tryz.func24 rfl rfl rfl ?_
  have hX : Ext False w w := Bel.refl _ _
  refine W_seq (W_region ?_)
  refine Rg_newB rfl (o_alloc Tryz.zeroValue36) ?_
  intro b2 w1 x2 hge2 hb2
  have hlt2 := hb2.lt
  change Box _ _ _ ([.slice _ _ _]) at hb2
  have z3 := Bel.size x2
  replace hX := Bel.ex hX x2
  refine Rg_nil (W_seq (W_region ?_))
  refine Rg_run rfl (o_moveh (v := .int _ _) rfl) ?_
  refine Rg_enter rfl (o_call1 Tryz.call61 rfl) (Ok.mono (rmem_ok _ _) ?_)
  rintro v4 w4 ⟨hown4, x5⟩
  have z6 := Bel.size x5
  replace hX := Bel.ex hX x5
  replace hb2 := hb2.ext x5
  replace hown4 := hown4.mono (D' := fun g => w.heap.size ≤ g) (fun g h1 h2 => by omega)
  refine Rg_enter rfl (o_call1 Tryz.call33 rfl) (Ok.mono (bof_ok _ _ (memW n 64) (hown4.trd encJ_ok) (by have := memW_len n 64; omega) (memW_ok n)) ?_)
  rintro _ w7 ⟨a5, c5, rfl, hq5, x8⟩
  have z9 := Bel.size x8
  replace hX := Bel.ex hX x8
  replace hb2 := hb2.ext x8
  refine Rg_storeW (v := .agg _) rfl Tryz.sizeOf36 rfl rfl hb2 rfl rfl rfl ?_
  intro w10 c11 hb2
  change Box _ _ _ (encSV _) at hb2
  have z12 := Bel.size c11
  replace hX := Bel.out hX c11 (fun g h1 h2 => by first | exact h2 | omega)
  replace hq5 := hq5.keep c11 (fun g h1 h2 h3 => by omega)
  refine Rg_nil (W_ret ?_)
  refine ⟨_, res_1 (v := .agg _) rfl (rv_cellS Tryz.isAgg36 Tryz.sizeOf36 rfl hb2.at rfl), ?_⟩
  rw [ofW_mem] at hq5 ⊢; exact ⟨_, _, rfl, hq5.mono (fun g h1 h2 => ⟨by omega, by omega⟩), hX⟩

theorem ball_ok (w : World) (s : SV) (Gs : Nat → Prop) (hs : Sl encU 1 Gs w s.a s.c (wl s.x)) : Ok Tryz.prog 72 #[.agg (encSV s).toArray] w fun v w' => ∃ b, v = .func (.func 126) #[] #[.pointer (some ⟨b, 0, none⟩)] ∧ w.heap.size ≤ b ∧ At w' b 0 (encSV s) ∧ Ext False w w' := by
  refine Ok_of_W 4 Tryz.func72 rfl rfl rfl ?_
  have hX : Ext False w w := Bel.refl _ _
  refine W_seq (W_region ?_)
  refine Rg_newB rfl (o_box (v := .agg _) rfl) ?_
  intro b1 w1 x2 hge1 hb1
  have hlt1 := hb1.lt
  change Box _ _ _ (encSV _) at hb1
  have z3 := Bel.size x2
  replace hX := Bel.ex hX x2
  refine Rg_run rfl o_assignc ?_
  refine Rg_nil (W_seq (W_region ?_))
  refine Rg_run rfl (o_fn1 rfl) ?_
  refine Rg_run rfl (o_assignh (v := .func _ _ _) rfl) ?_
  refine Rg_nil (W_ret ?_)
  refine ⟨_, res_tmp rfl rfl, ?_⟩
  exact ⟨_, rfl, by omega, hb1.at, hX⟩

theorem ball1_ok (D : Nat → Prop) (l : Nat) (J : Nat → World → Prop) (b : Nat) (s : SV) (G : Nat → Prop) (w : World) (hp : At w b 0 (encSV s)) (hs : Sl encU 1 G w s.a s.c (wl s.x)) (hT : Tb w) (hpD : ¬ D b) (hTD : ¬ D 0) (hsD : ∀ g, g < w.heap.size → G g → ¬ D g)
    (hJs : ∀ i a b, J i a → Ext False a b → J i b) (hY : ∀ i x a, (memW s.x 64)[i]? = some x → J i a → Yl Tryz.prog l #[.int .i64 x] a fun e b => e = .returned (.bool true) ∧ J (i + 1) b ∧ Bel False D a b) (hJ : J 0 w) : Ok Tryz.prog 126 #[.func (.yield l) #[] #[], .pointer (some ⟨b, 0, none⟩)] w fun v w' => J (memW s.x 64).length w' := by
  replace hs := hs.mono (F' := fun g => G g ∧ g < w.heap.size) (fun g h1 h2 => ⟨h2, h1⟩)
  replace hsD : ∀ w1 : World, ∀ g, g < w1.heap.size → (G g ∧ g < w.heap.size) → ¬ D g := fun _ g _ h => hsD g h.2 h.1
  refine Ok_of_W 28 Tryz.func126 rfl rfl rfl ?_
  have hX : Bel False (D) w w := Bel.refl _ _
  refine W_seq (W_region ?_)
  refine Rg_run rfl (o_fa Tryz.underlying36 rfl Tryz.sizeOf34 rfl) ?_
  refine Rg_run rfl (o_load1 Tryz.isAgg34 rfl (hp.get 0 rfl)) ?_
  refine Rg_run rfl (o_llen Tryz.underlying34 rfl) ?_
  refine Rg_run rfl o_movec ?_
  refine Rg_nil (W_block ?_)
  refine W_for (α := Nat) [(3, 4), (8, 27)] (fun k => [(8, .int .i64 (k : Int))]) (fun k w' => (k ≤ (wl s.x).length) ∧ Bel False (D) w w' ∧ (J (if k = 0 then 0 else (memW s.x 64).length) w')) (fun k => (wl s.x).length - k) 0 ⟨rfl, trivial⟩ ⟨Nat.zero_le _, Bel.refl _ _, hJ⟩ ?_
  rintro k fb3 w2 ⟨hk, hXL1, hJ⟩
  have z4 := Bel.size hXL1
  replace hX := Bel.out hX hXL1 (fun g h1 h2 => by first | exact h2 | omega)
  replace hs := hs.keep hXL1 (hsD _)
  replace hT := hT.keep hXL1 hTD
  refine W_seq (W_region ?_)
  refine Rg_run rfl (o_lss rfl rfl) ?_
  refine Rg_nil (W_seq ?_)
  refine W_cond rfl (fun hc1 => ?_) (fun hc1 => ?_)
  · skip
    replace hc1 := of_decide_eq_true hc1
    have hk0 : k = 0 := by have := wl_len s.x; omega
    subst hk0
    refine W_skip (W_seq (W_block (W_seq (W_region ?_))))
    refine Rg_run rfl (o_moveh (v := .int _ _) rfl) ?_
    refine Rg_run rfl (o_iaR Tryz.underlying34 Tryz.sizeOf50 hs rfl rfl (by first | omega | (unfold I64; omega) | (simp; done) | (simp; omega) | (simp at *; omega))) ?_
    refine Rg_run rfl (o_ldR Tryz.isAgg50 hs rfl rfl (getE 0 (by omega)) rfl) ?_
    refine Rg_run rfl (o_assignh (v := .int _ _) rfl) ?_
    refine Rg_run rfl (o_assignh (v := .int _ _) rfl) ?_
    refine Rg_nil (W_block ?_)
    refine W_for (α := Nat) [(4, 4), (13, 26)] (fun j => [(4, u64 (restW s.x j))]) (fun j w' => (j ≤ (memW s.x 64).length) ∧ Bel False (D) w2 w' ∧ (J j w')) (fun j => (memW s.x 64).length - j) 0 ⟨(congrArg u64 (wl_get s.x)), trivial⟩ ⟨Nat.zero_le _, Bel.refl _ _, hJ⟩ ?_
    rintro j fb7 w6 ⟨hj, hXL5, hJ⟩
    have z8 := Bel.size hXL5
    replace hX := Bel.out hX hXL5 (fun g h1 h2 => by first | exact h2 | omega)
    replace hXL1 := Bel.out hXL1 hXL5 (fun g h1 h2 => by first | exact h2 | omega)
    replace hT := hT.keep hXL5 hTD
    refine W_seq (W_seq (W_region ?_))
    refine Rg_run rfl (o_moveh (v := .int _ _) rfl) ?_
    refine Rg_run rfl (o_neU (b := BitVec.ofNat 64 0) rfl rfl) ?_
    refine Rg_nil ?_
    refine W_cond rfl (fun hc2 => ?_) (fun hc2 => ?_)
    · skip
      have hy := rest_yes hj (by simpa using hc2)
      refine W_skip (W_seq (W_block (W_seq (W_region ?_))))
      refine Rg_run rfl (o_moveh (v := .func _ _ _) rfl) ?_
      refine Rg_run rfl (o_moveh (v := .int _ _) rfl) ?_
      refine Rg_run rfl (o_mul rfl rfl (by first | omega | (unfold I64; omega) | (simp; done) | (simp; omega) | (simp at *; omega))) ?_
      refine Rg_run rfl (o_moveh (v := .int _ _) rfl) ?_
      refine Rg_enter rfl (o_call1 Tryz.call127 rfl) (Ok.mono (tz_ok _ _ hT) ?_)
      rintro _ w9 ⟨rfl, x10⟩
      have z11 := Bel.size x10
      replace hX := Bel.ex hX x10
      replace hXL1 := Bel.ex hXL1 x10
      replace hXL5 := Bel.ex hXL5 x10
      replace hJ := hJs _ _ _ hJ x10
      refine Rg_run rfl (o_add rfl rfl (by have := ctz_lt (show restW s.x j ≠ 0 by simpa using hc2); unfold I64; omega)) ?_
      refine Rg_yield rfl rfl rfl (hY _ _ _ (by simpa using hy.2) hJ) ?_
      rintro w12 ⟨hJ, x13⟩
      have z14 := Bel.size x13
      replace hX := Bel.out hX x13 (fun g h1 h2 => by first | exact h2 | omega)
      replace hXL1 := Bel.out hXL1 x13 (fun g h1 h2 => by first | exact h2 | omega)
      replace hXL5 := Bel.out hXL5 x13 (fun g h1 h2 => by first | exact h2 | omega)
      refine Rg_run rfl (o_not rfl) ?_
      refine Rg_nil ?_
      refine W_cond_false rfl ?_
      refine W_skip (W_region ?_)
      refine Rg_run rfl (o_moveh (v := .int _ _) rfl) ?_
      refine Rg_run rfl (o_moveh (v := .int _ _) rfl) ?_
      refine Rg_run rfl (o_subU (b := BitVec.ofNat 64 1) rfl rfl) ?_
      refine Rg_run rfl (o_band rfl rfl) ?_
      refine Rg_run rfl (o_assignh (v := .int _ _) rfl) ?_
      refine Rg_nil ?_
      refine ⟨j + 1, ⟨?_, trivial⟩, ?_, ⟨?_, hXL5, ?_⟩, ?_⟩
      · first | rfl | (go_num) | (exact congrArg _ (by omega))
      · repeat (first | exact off_refl _ _ | exact off_mix | refine off_put rfl ?_ | refine off_putN ?_ | refine off_setL rfl ?_ | refine off_mix' rfl ?_)
      · have := hy.1; omega
      · exact hJ
      · have := hy.1; omega
    have hj2 := rest_no hj (by simpa using hc2)
    refine W_exit (exAt_hit (W_region ?_))
    refine Rg_run rfl (o_add rfl rfl (by first | omega | (unfold I64; omega) | (simp; done) | (simp; omega) | (simp at *; omega))) ?_
    refine Rg_run rfl (o_moveh (v := .int _ _) rfl) ?_
    refine Rg_nil ?_
    refine ⟨1, ⟨?_, trivial⟩, ?_, ⟨?_, hXL1, ?_⟩, ?_⟩
    · first | rfl | (go_num) | (exact congrArg _ (by omega))
    · repeat (first | exact off_refl _ _ | exact off_mix | refine off_put rfl ?_ | refine off_putN ?_ | refine off_setL rfl ?_ | refine off_mix' rfl ?_)
    · show 1 ≤ _; omega
    · rw [if_neg (by omega)]; rw [hj2] at hJ; exact hJ
    · omega
  replace hc1 := of_decide_eq_false hc1
  refine W_exit (exAt_hit ?_)
  refine ⟨_, res_none rfl, ?_⟩
  have e1 : (if k = 0 then 0 else (memW s.x 64).length) = (memW s.x 64).length := by
    split
    · have hz : s.x = 0 := by
        rcases wl_cases s.x with h | h
        · exact h.1
        · rw [h.2] at hc1; simp at hc1; omega
      rw [hz, mem_zero]; rfl
    · rfl
  rw [e1] at hJ; exact hJ

theorem ball_iter (D : Nat → Prop) (b : Nat) (s : SV) (G : Nat → Prop) (w : World) (hp : At w b 0 (encSV s)) (hs : Sl encU 1 G w s.a s.c (wl s.x)) (hT : Tb w) (hpD : ¬ D b) (hTD : ¬ D 0) (hsD : ∀ g, g < w.heap.size → G g → ¬ D g) :
    Iter Tryz.prog 126 #[.pointer (some ⟨b, 0, none⟩)] D w (memW s.x 64) (fun i => .int .i64 i) := fun l J u x hJs hY hJ =>
  ball1_ok D l J b s (fun g => G g ∧ g < w.heap.size) u (hp.ext x) ((hs.mono (fun g h1 h2 => ⟨h2, h1⟩)).ext x) (hT.ext x) hpD hTD (fun g _ h => hsD g h.2 h.1) hJs hY hJ
end Go.Proofs.YtncmjgmlnnenhaaGreatDoor
