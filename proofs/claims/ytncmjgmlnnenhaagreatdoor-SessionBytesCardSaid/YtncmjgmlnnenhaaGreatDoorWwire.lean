/- Walks, printed by program: each theorem says what a function of the translation returns. -/
import Derived.Test.YtncmjgmlnnenhaaGreatDoorWbits
import Derived.Test.YtncmjgmlnnenhaaGreatDoorHy
import Derived.Test.YtncmjgmlnnenhaaGreatDoorPure11f
import Derived.Test.YtncmjgmlnnenhaaGreatDoorDrawC
import Derived.Test.YtncmjgmlnnenhaaGreatDoorPtr
namespace Go.Proofs.YtncmjgmlnnenhaaGreatDoor
open Go Go.Lx Go.RowKit
set_option maxRecDepth 100000
set_option linter.unusedVariables false
set_option linter.unusedSimpArgs false
set_option linter.unnecessarySimpa false
theorem el_b8 : ElT Tryz.prog 30 5 1 1 (.int .u8 0) := ⟨Tryz.underlying30, ⟨Tryz.t5, by kernel_rfl, rfl, rfl, rfl⟩, rfl, by decide, by decide⟩
theorem bclone_ok (v0 : Value) (G : Nat → Prop) (l : List UInt8) (w : World) (hl : Rd encB 1 G w v0 l) (hn : l.length ≤ 100000000) : Ok Tryz.prog 90 #[v0] w fun v w' => Own encB 1 5 (Fsh w w') w' v l ∧ Ext False w w' := by
  obtain ⟨a, c, rfl, hl⟩ := hl
  replace hl := hl.mono (F' := fun g => G g ∧ g < w.heap.size) (fun g h1 h2 => ⟨h2, h1⟩)
  refine Ok_of_W 8 Tryz.func90 rfl rfl rfl ?_
  have hX : Ext False w w := Bel.refl _ _
  refine W_seq (W_region ?_)
  refine Rg_run rfl o_assignc ?_
  refine Rg_nil (W_seq (W_seq (W_region ?_)))
  refine Rg_run rfl (o_moveh (v := .slice _ _ _) rfl) ?_
  refine Rg_run rfl (o_lnil Tryz.underlying30 rfl) ?_
  refine Rg_nil ?_
  refine W_cond rfl (fun hc1 => ?_) (fun hc1 => ?_)
  · skip
    have hnl := sl_none hl hc1; subst hnl
    refine W_seq (W_region ?_)
    refine Rg_run rfl o_assignc ?_
    refine Rg_nil (W_ret ?_)
    refine ⟨_, res_tmp rfl rfl, ?_⟩
    exact ⟨Own.nil _ _, hX⟩
  refine W_skip (W_seq (W_region ?_))
  refine Rg_bs (vs := []) (([] : List UInt8)) rfl encB_ok el_b8 rfl rfl trivial rfl rfl rfl rfl ?_
  intro a5 w1 x2 hown5
  have z3 := Bel.size x2
  replace hX := Bel.ex hX x2
  replace hl := hl.ext x2
  replace hown5 := hown5.mono (D' := fun g => w.heap.size ≤ g) (fun g h1 h2 => by omega)
  refine Rg_run rfl (o_moveh (v := .slice _ _ _) rfl) ?_
  refine Rg_app rfl encB_ok el_b8 rfl rfl hown5 hl rfl (by simp; omega) (fun g h => by omega) ?_
  intro v7 w4 x5 hown5
  have z6 := Bel.size x5
  replace hX := Bel.out hX x5 (fun g h1 h2 => by first | exact h2 | omega)
  refine Rg_run rfl (o_assignh (v := v7) rfl) ?_
  refine Rg_nil (W_ret ?_)
  refine ⟨_, res_tmp rfl rfl, ?_⟩
  rw [List.nil_append] at hown5; exact ⟨hown5.mono (fun g h1 h2 => by omega), hX⟩

theorem brev_ok (v0 : Value) (D : Nat → Prop) (l : List UInt8) (w : World) (ho : Own encB 1 5 D w v0 l) (hl : l.length ≤ 1000000) : Ok Tryz.prog 143 #[v0] w fun v w' => v = .tuple #[] ∧ Own encB 1 5 D w' v0 l.reverse ∧ Bel True D w w' := by
  obtain ⟨a, c, rfl, -⟩ := ho.sl encB_ok
  refine Ok_of_W 28 Tryz.func143 rfl rfl rfl ?_
  have hX : Bel True (D) w w := Bel.refl _ _
  refine W_seq (W_region ?_)
  refine Rg_run rfl (o_moveh (v := .slice _ _ _) rfl) ?_
  refine Rg_run rfl (o_llen Tryz.underlying30 rfl) ?_
  refine Rg_run rfl (o_sub rfl rfl (by first | omega | (unfold I64; omega) | (simp; done) | (simp; omega) | (simp at *; omega))) ?_
  refine Rg_run rfl o_assignc ?_
  refine Rg_run rfl (o_assignh (v := .int _ _) rfl) ?_
  refine Rg_nil (W_block ?_)
  refine W_for (α := Nat × Nat × List UInt8) [(2, 3), (7, 27)] (fun q => [(2, .int .i64 (q.1 : Int)), (3, .int .i64 ((q.2.1 : Int) - 1))]) (fun q w' => (q.1 + q.2.1 = l.length ∧ RevI l q.2.2 q.1) ∧ Bel True (fun g => D g) w w' ∧ (Own encB 1 5 (fun g => D g) w' (.slice a l.length c) q.2.2)) (fun q => q.2.1) (0, l.length, l) ⟨rfl, rfl, trivial⟩ ⟨⟨by simp, RevI.start l⟩, Bel.refl _ _, ho⟩ ?_
  rintro ⟨i, j1, m⟩ fb3 w2 ⟨⟨hij0, hI⟩, hXL1, ho⟩
  dsimp only at *
  have z4 := Bel.size hXL1
  replace hX := Bel.out hX hXL1 (fun g h1 h2 => by first | exact h2 | (subst h2; exact hDg0) | omega)
  refine W_seq (W_seq (W_region ?_))
  refine Rg_run rfl (o_moveh (v := .int _ _) rfl) ?_
  refine Rg_run rfl (o_moveh (v := .int _ _) rfl) ?_
  refine Rg_run rfl (o_lss rfl rfl) ?_
  refine Rg_nil ?_
  refine W_cond rfl (fun hc1 => ?_) (fun hc1 => ?_)
  · skip
    replace hc1 := of_decide_eq_true hc1
    obtain ⟨j, rfl⟩ : ∃ j, j1 = j + 1 := ⟨j1 - 1, by omega⟩
    have hij : i < j := by omega
    have hml := hI.len
    rw [show (((j + 1 : Nat) : Int) - 1) = (j : Int) by omega]
    refine W_skip (W_seq (W_block ?_))
    obtain ⟨g0, hg0, hDg0, hq⟩ := ho.blk0 (by intro e; rw [e] at hml; simp at hml; omega)
    apply W_drawC (β := True) (fun b => if b = g0 then 1 else 0) [peqC _, peqC _, peqC _, peqC _, peqC _, peqC _, peqC _, peqC _, peqC _, peqC _, peqC _, peqC _, peqC _, (postOwnAt encB 1 5 1 (.slice a l.length c) (m.set i (m.getD j 0)))] [0, 0, 0, 0, 0, 0, 0, 0, 0, 0, 0, 0, 0, 1] 14 mixed (by kernel_rfl) (by kernel_rfl) rfl ⟨peqC_stable _ _, peqC_stable _ _, peqC_stable _ _, peqC_stable _ _, peqC_stable _ _, peqC_stable _ _, peqC_stable _ _, peqC_stable _ _, peqC_stable _ _, peqC_stable _ _, peqC_stable _ _, peqC_stable _ _, peqC_stable _ _, (postOwnAt_stable), trivial⟩ ?ob3 ?fin3
    case ob3 =>
      refine OblC_cons (fun w5 c7 x6 hc08 hk9 => ?_) ?_
      · skip
        replace x6 := Bel.mono x6 (D' := fun g => g = g0) (fun g hg h => Classical.byContradiction fun hn => h (by (try simp only [not_or] at hn); simp [hn]))
        have z10 := Bel.size x6
        refine bindC_nil ?_
        exact OpC_v rfl (o_moveh (v := .slice _ _ _) rfl)
      refine OblC_cons (fun w11 c13 x12 hc014 hk15 => ?_) ?_
      · skip
        replace x12 := Bel.mono x12 (D' := fun g => g = g0) (fun g hg h => Classical.byContradiction fun hn => h (by (try simp only [not_or] at hn); simp [hn]))
        have z16 := Bel.size x12
        refine bindC_nil ?_
        exact OpC_v rfl (o_moveh (v := .int _ _) rfl)
      refine OblC_cons (fun w17 c19 x18 hc020 hk21 => ?_) ?_
      · skip
        replace x18 := Bel.mono x18 (D' := fun g => g = g0) (fun g hg h => Classical.byContradiction fun hn => h (by (try simp only [not_or] at hn); simp [hn]))
        have z22 := Bel.size x18
        refine bindC_nil ?_
        exact OpC_v rfl (o_moveh (v := .slice _ _ _) rfl)
      refine OblC_cons (fun w23 c25 x24 hc026 hk27 => ?_) ?_
      · skip
        replace x24 := Bel.mono x24 (D' := fun g => g = g0) (fun g hg h => Classical.byContradiction fun hn => h (by (try simp only [not_or] at hn); simp [hn]))
        have z28 := Bel.size x24
        refine bindC_nil ?_
        exact OpC_v rfl (o_moveh (v := .int _ _) rfl)
      refine OblC_cons (fun w29 c31 x30 hc032 hk33 => ?_) ?_
      · skip
        replace x30 := Bel.mono x30 (D' := fun g => g = g0) (fun g hg h => Classical.byContradiction fun hn => h (by (try simp only [not_or] at hn); simp [hn]))
        have z34 := Bel.size x30
        refine bindC_nil ?_
        exact OpC_v rfl (o_moveh (v := .slice _ _ _) rfl)
      refine OblC_cons (fun w35 c37 x36 hc038 hk39 => ?_) ?_
      · skip
        replace x36 := Bel.mono x36 (D' := fun g => g = g0) (fun g hg h => Classical.byContradiction fun hn => h (by (try simp only [not_or] at hn); simp [hn]))
        have z40 := Bel.size x36
        refine bindC_nil ?_
        exact OpC_v rfl (o_moveh (v := .int _ _) rfl)
      refine OblC_cons (fun w41 c43 x42 hc044 hk45 => ?_) ?_
      · skip
        replace x42 := Bel.mono x42 (D' := fun g => g = g0) (fun g hg h => Classical.byContradiction fun hn => h (by (try simp only [not_or] at hn); simp [hn]))
        have z46 := Bel.size x42
        have hq := hq.blk (hk45 1 (by decide) (by kernel_rfl) _ hq.lt (by first | (simp [colAt]; done) | (simp [colAt]; omega)))
        refine bindC_eq (bindC_eq (bindC_nil ?_))
        exact OpC_v rfl (o_iaO (i := j) Tryz.underlying30 Tryz.sizeOf5 hq.1 rfl rfl (by omega))
      refine OblC_cons (fun w47 c49 x48 hc050 hk51 => ?_) ?_
      · skip
        replace x48 := Bel.mono x48 (D' := fun g => g = g0) (fun g hg h => Classical.byContradiction fun hn => h (by (try simp only [not_or] at hn); simp [hn]))
        have z52 := Bel.size x48
        have hq := hq.blk (hk51 1 (by decide) (by kernel_rfl) _ hq.lt (by first | (simp [colAt]; done) | (simp [colAt]; omega)))
        refine bindC_eq (bindC_nil ?_)
        exact OpC_v rfl (o_ldR Tryz.isAgg5 ((show Own encB 1 5 (fun b => b = g0) _ (.slice a m.length c) m by rw [hml]; exact hq.1).slA encB_ok) rfl rfl (getE 0 (by omega)) rfl)
      refine OblC_cons (fun w53 c55 x54 hc056 hk57 => ?_) ?_
      · skip
        replace x54 := Bel.mono x54 (D' := fun g => g = g0) (fun g hg h => Classical.byContradiction fun hn => h (by (try simp only [not_or] at hn); simp [hn]))
        have z58 := Bel.size x54
        refine bindC_nil ?_
        exact OpC_v rfl (o_moveh (v := .slice _ _ _) rfl)
      refine OblC_cons (fun w59 c61 x60 hc062 hk63 => ?_) ?_
      · skip
        replace x60 := Bel.mono x60 (D' := fun g => g = g0) (fun g hg h => Classical.byContradiction fun hn => h (by (try simp only [not_or] at hn); simp [hn]))
        have z64 := Bel.size x60
        refine bindC_nil ?_
        exact OpC_v rfl (o_moveh (v := .int _ _) rfl)
      refine OblC_cons (fun w65 c67 x66 hc068 hk69 => ?_) ?_
      · skip
        replace x66 := Bel.mono x66 (D' := fun g => g = g0) (fun g hg h => Classical.byContradiction fun hn => h (by (try simp only [not_or] at hn); simp [hn]))
        have z70 := Bel.size x66
        have hq := hq.blk (hk69 1 (by decide) (by kernel_rfl) _ hq.lt (by first | (simp [colAt]; done) | (simp [colAt]; omega)))
        refine bindC_eq (bindC_eq (bindC_nil ?_))
        exact OpC_v rfl (o_iaO (i := i) Tryz.underlying30 Tryz.sizeOf5 hq.1 rfl rfl (by omega))
      refine OblC_cons (fun w71 c73 x72 hc074 hk75 => ?_) ?_
      · skip
        replace x72 := Bel.mono x72 (D' := fun g => g = g0) (fun g hg h => Classical.byContradiction fun hn => h (by (try simp only [not_or] at hn); simp [hn]))
        have z76 := Bel.size x72
        have hq := hq.blk (hk75 1 (by decide) (by kernel_rfl) _ hq.lt (by first | (simp [colAt]; done) | (simp [colAt]; omega)))
        refine bindC_eq (bindC_nil ?_)
        exact OpC_v rfl (o_ldR Tryz.isAgg5 ((show Own encB 1 5 (fun b => b = g0) _ (.slice a m.length c) m by rw [hml]; exact hq.1).slA encB_ok) rfl rfl (getE 0 (by omega)) rfl)
      refine OblC_cons (fun w77 c79 x78 hc080 hk81 => ?_) ?_
      · skip
        replace x78 := Bel.mono x78 (D' := fun g => g = g0) (fun g hg h => Classical.byContradiction fun hn => h (by (try simp only [not_or] at hn); simp [hn]))
        have z82 := Bel.size x78
        have hq := hq.blk (hk81 1 (by decide) (by kernel_rfl) _ hq.lt (by first | (simp [colAt]; done) | (simp [colAt]; omega)))
        refine bindC_eq (bindC_eq (bindC_eq (bindC_eq (bindC_eq (bindC_eq (bindC_eq (bindC_eq (bindC_eq ?_))))))))
        refine bindC_nil ?_
        exact OpC_v rfl (o_iaO (i := i) Tryz.underlying30 Tryz.sizeOf5 hq.1 rfl rfl (by omega))
      refine OblC_cons (fun w83 c85 x84 hc086 hk87 => ?_) ?_
      · skip
        replace x84 := Bel.mono x84 (D' := fun g => g = g0) (fun g hg h => Classical.byContradiction fun hn => h (by (try simp only [not_or] at hn); simp [hn]))
        have z88 := Bel.size x84
        refine bindC_eq (bindC_eq (bindC_eq (bindC_eq (bindC_eq (bindC_eq (bindC_eq (bindC_eq (bindC_eq ?_))))))))
        refine bindC_nil ?_
        exact OpC_elst (kc := 1) (i := i) (u := m.getD j 0) (by decide) encB_ok Tryz.sizeOf5 rfl rfl rfl ((hq.blk (hk87 1 (by decide) (by kernel_rfl) _ hq.lt (by first | (simp [colAt]; done) | (simp [colAt]; omega)))).col ((hc086 g0 hq.lt).trans (by first | (simp [colAt]; done) | (simp [colAt]; omega)))) (by omega)
      exact OblC_nil
    case fin3 =>
      intro w89 c91 x90 hc092
      replace x90 := Bel.mono x90 (D' := fun g => g = g0) (fun g hg h => Classical.byContradiction fun hn => h (by (try simp only [not_or] at hn); simp [hn]))
      have z93 := Bel.size x90
      replace hX := Bel.out hX x90 (fun g h1 h2 => by first | exact h2 | (subst h2; exact hDg0) | omega)
      replace hXL1 := Bel.out hXL1 x90 (fun g h1 h2 => by first | exact h2 | (subst h2; exact hDg0) | omega)
      refine bindC_eq (bindC_eq (bindC_eq (bindC_eq (bindC_eq (bindC_eq (bindC_eq (bindC_eq (bindC_eq ?_))))))))
      refine bindC_eq (bindC_eq (bindC_eq (bindC_eq ?_)))
      refine bindC_lk rfl (fun hst13 => ?_)
      refine bindC_nil ?_
      change Own _ _ _ _ _ _ _ at hst13
      have ho := hst13.at (D' := D) (fun g h1 h2 => by rw [hg0] at h2; cases h2; exact hDg0)
      refine Rg_run rfl (o_iaO (i := j) Tryz.underlying30 Tryz.sizeOf5 ho rfl rfl (by omega)) ?_
      refine Rg_elst (u := (m.getD i 0)) rfl encB_ok Tryz.sizeOf5 rfl rfl rfl ho (by rw [List.length_set]; omega) ?_
      intro w94 x95 ho
      have z96 := Bel.size x95
      replace hX := Bel.out hX x95 (fun g h1 h2 => by first | exact h2 | (subst h2; exact hDg0) | omega)
      replace hXL1 := Bel.out hXL1 x95 (fun g h1 h2 => by first | exact h2 | (subst h2; exact hDg0) | omega)
      refine Rg_nil (W_region ?_)
      refine Rg_run rfl (o_moveh (v := .int _ _) rfl) ?_
      refine Rg_run rfl (o_add rfl rfl (by first | omega | (unfold I64; omega) | (simp; done) | (simp; omega) | (simp at *; omega))) ?_
      refine Rg_run rfl (o_moveh (v := .int _ _) rfl) ?_
      refine Rg_run rfl (o_sub rfl rfl (by first | omega | (unfold I64; omega) | (simp; done) | (simp; omega) | (simp at *; omega))) ?_
      refine Rg_run rfl (o_assignh (v := .int _ _) rfl) ?_
      refine Rg_run rfl (o_assignh (v := .int _ _) rfl) ?_
      refine Rg_nil ?_
      refine ⟨(i + 1, j, (m.set i (m.getD j 0)).set j (m.getD i 0)), ⟨?_, ?_, trivial⟩, ?_, ⟨?_, hXL1, ?_⟩, ?_⟩
      · first | rfl | (go_num) | (exact congrArg _ (by omega))
      · first | rfl | (exact congrArg _ (by omega)) | (show Value.int .i64 ((j : Int) - 1) = .int .i64 ((j : Int) - 1); rfl)
      · repeat (first | exact off_refl _ _ | exact off_mix | refine off_put rfl ?_ | refine off_putN ?_ | refine off_setL rfl ?_ | refine off_mix' rfl ?_)
      · exact ⟨by show i + 1 + j = l.length; omega, hI.step (by omega) hij⟩
      · exact ho
      · show j < j + 1; omega
  replace hc1 := of_decide_eq_false hc1
  refine W_exit (exAt_hit ?_)
  refine ⟨_, res_none rfl, ?_⟩
  have e := hI.fin (by omega)
  rw [← e]; exact ⟨rfl, ho, hX⟩

theorem wgrp_ok (x : W64) (w : World) : Ok Tryz.prog 87 #[u64 x] w fun v w' => Own encB 1 5 (Fsh w w') w' v (putU x) ∧ Ext False w w' := by
  have hgl := gT_len (x >>> 7) 10 (by have := (x >>> 7).isLt; omega)
  refine Ok_of_W 24 Tryz.func87 rfl rfl rfl ?_
  have hX : Ext False w w := Bel.refl _ _
  refine W_seq (W_region ?_)
  refine Rg_run rfl o_assignc ?_
  refine Rg_nil (W_seq (W_region ?_))
  refine Rg_run rfl (o_moveh (v := .int _ _) rfl) ?_
  refine Rg_run rfl (o_band (b := BitVec.ofNat 64 127) rfl rfl) ?_
  refine Rg_run rfl (o_convUB Tryz.underlying50 Tryz.underlying5 rfl) ?_
  refine Rg_bs (vs := [.int _ _]) ([b7 x]) rfl encB_ok el_b8 rfl rfl ⟨rfl, trivial⟩ rfl rfl rfl rfl ?_
  intro a7 w1 x2 hown7
  have z3 := Bel.size x2
  replace hX := Bel.ex hX x2
  replace hown7 := hown7.mono (D' := fun g => w.heap.size ≤ g) (fun g h1 h2 => by omega)
  refine Rg_run rfl (o_assignh (v := .slice _ _ _) rfl) ?_
  refine Rg_nil (W_seq (W_seq (W_region ?_)))
  refine Rg_run rfl (o_moveh (v := .int _ _) rfl) ?_
  refine Rg_run rfl (o_shrU (n := 7) rfl rfl (by first | omega | (unfold I64; omega) | (simp; done) | (simp; omega) | (simp at *; omega))) ?_
  refine Rg_run rfl (o_assignh (v := .int _ _) rfl) ?_
  refine Rg_nil (W_block ?_)
  refine W_for (α := W64 × List UInt8 × Value) [(0, 0), (3, 3), (10, 20)] (fun q => [(0, u64 q.1), (3, q.2.2)]) (fun q w' => (q.2.1 ++ gT q.1 = gT (x >>> 7)) ∧ Bel False (fun g => w.heap.size ≤ g) w1 w' ∧ (Own encB 1 5 (fun g => w.heap.size ≤ g) w' q.2.2 (b7 x :: q.2.1))) (fun q => q.1.toNat) (x >>> 7, [], .slice a7 1 1) ⟨rfl, rfl, trivial⟩ ⟨rfl, Bel.refl _ _, hown7⟩ ?_
  rintro ⟨y, l, u⟩ fb6 w5 ⟨hI, hXL4, hown⟩
  dsimp only at *
  have z7 := Bel.size hXL4
  replace hX := Bel.out hX hXL4 (fun g h1 h2 => by first | exact h2 | omega)
  refine W_seq (W_seq (W_region ?_))
  refine Rg_run rfl (o_moveh (v := .int _ _) rfl) ?_
  refine Rg_run rfl (o_gtr rfl rfl) ?_
  refine Rg_nil ?_
  refine W_cond rfl (fun hc1 => ?_) (fun hc1 => ?_)
  · skip
    replace hc1 := of_decide_eq_true hc1
    have hy0 : y ≠ 0 := fun h => by subst h; simp at hc1
    refine W_skip (W_seq (W_block (W_region ?_)))
    refine Rg_run rfl (o_moveh (v := u) rfl) ?_
    refine Rg_run rfl (o_moveh (v := .int _ _) rfl) ?_
    refine Rg_run rfl (o_band (b := BitVec.ofNat 64 127) rfl rfl) ?_
    refine Rg_run rfl (o_convUB Tryz.underlying50 Tryz.underlying5 rfl) ?_
    refine Rg_run rfl (o_borB (a := b7 y) (b := 128) rfl rfl) ?_
    refine Rg_bs (vs := [.int _ _]) ([b7 y ||| 128]) rfl encB_ok el_b8 rfl rfl ⟨rfl, trivial⟩ rfl rfl rfl rfl ?_
    intro a19 w8 x9 hown19
    have z10 := Bel.size x9
    replace hX := Bel.ex hX x9
    replace hXL4 := Bel.ex hXL4 x9
    replace hown := hown.ext x9
    replace hown19 := hown19.mono (D' := fun g => w.heap.size ≤ g) (fun g h1 h2 => by omega)
    refine Rg_app rfl encB_ok el_b8 rfl rfl hown (hown19.slA encB_ok) rfl (by have := congrArg List.length hI; simp at *; omega) (fun g h => by omega) ?_
    intro v20 w11 x12 hown
    have z13 := Bel.size x12
    replace hX := Bel.out hX x12 (fun g h1 h2 => by first | exact h2 | omega)
    replace hXL4 := Bel.out hXL4 x12 (fun g h1 h2 => by first | exact h2 | omega)
    refine Rg_run rfl (o_assignh (v := v20) rfl) ?_
    refine Rg_nil (W_region ?_)
    refine Rg_run rfl (o_moveh (v := .int _ _) rfl) ?_
    refine Rg_run rfl (o_shrU (n := 7) rfl rfl (by first | omega | (unfold I64; omega) | (simp; done) | (simp; omega) | (simp at *; omega))) ?_
    refine Rg_run rfl (o_assignh (v := .int _ _) rfl) ?_
    refine Rg_nil ?_
    refine ⟨(y >>> 7, l ++ [b7 y ||| 128], v20), ⟨?_, ?_, trivial⟩, ?_, ⟨?_, hXL4, ?_⟩, ?_⟩
    · first | rfl | (go_num) | (exact congrArg _ (by omega))
    · first | rfl | (go_num) | (exact congrArg _ (by omega))
    · repeat (first | exact off_refl _ _ | exact off_mix | refine off_put rfl ?_ | refine off_putN ?_ | refine off_setL rfl ?_ | refine off_mix' rfl ?_)
    · show (l ++ [b7 y ||| 128]) ++ gT (y >>> 7) = _; rw [List.append_assoc, List.singleton_append, ← gT_some hy0]; exact hI
    · exact hown
    · exact shr7_lt hy0
  replace hc1 := of_decide_eq_false hc1
  have hy0 : y = 0 := BitVec.eq_of_toNat_eq (by simp; omega)
  refine W_exit (exAt_hit (W_seq (W_region ?_)))
  refine Rg_run rfl (o_moveh (v := u) rfl) ?_
  refine Rg_enter rfl (o_call1 Tryz.call143 rfl) (Ok.mono (brev_ok _ _ _ _ hown (by have := congrArg List.length hI; simp at *; omega)) ?_)
  rintro _ w14 ⟨rfl, hown, x15⟩
  have z16 := Bel.size x15
  replace hX := Bel.out hX x15 (fun g h1 h2 => by first | exact h2 | omega)
  refine Rg_nil (W_seq (W_region ?_))
  refine Rg_run rfl (o_moveh (v := u) rfl) ?_
  refine Rg_run rfl (o_assignh (v := u) rfl) ?_
  refine Rg_nil (W_ret ?_)
  refine ⟨_, res_tmp rfl rfl, ?_⟩
  rw [hy0, gT_zero, List.append_nil] at hI
  rw [putU, ← hI]
  exact ⟨hown.mono (fun g h1 h2 => by omega), hX⟩

theorem wnew_ok (w : World) : Ok Tryz.prog 37 #[] w fun v w' => Wr 155 5 (Fsh w w') w' v [] ∧ Ext False w w' := by
  refine Ok_of_W 3 Tryz.func37 rfl rfl rfl ?_
  have hX : Ext False w w := Bel.refl _ _
  refine W_seq (W_region ?_)
  refine Rg_run rfl o_assignc ?_
  refine Rg_nil (W_seq (W_region ?_))
  refine Rg_run rfl (o_build (cells := [.slice none 0 0]) (vs := []) rfl (by kernel_rfl)) ?_
  refine Rg_newB rfl (o_box (v := .agg _) rfl) ?_
  intro b2 w1 x2 hge2 hb2
  have hlt2 := hb2.lt
  have z3 := Bel.size x2
  replace hX := Bel.ex hX x2
  refine Rg_run rfl (o_assignh (v := .pointer _) rfl) ?_
  refine Rg_nil (W_ret ?_)
  refine ⟨_, res_tmp rfl rfl, ?_⟩
  change Box _ _ _ [.slice none 0 0] at hb2
  exact ⟨⟨b2, _, rfl, ⟨by omega, hb2.lt⟩, hb2, Own.nil _ _⟩, hX⟩

theorem wraw_ok (v0 : Value) (D : Nat → Prop) (l : List UInt8) (v1 : Value) (G : Nat → Prop) (y : List UInt8) (w : World) (hw0 : Wr 155 5 D w v0 l) (hU : ∀ g, w.heap.size ≤ g → D g) (hy : Rd encB 1 G w v1 y) (hn : l.length + y.length ≤ 100000000) : Ok Tryz.prog 86 #[v0, v1] w fun v w' => v = .tuple #[] ∧ Wr 155 5 D w' v0 (l ++ y) ∧ Bel False D w w' := by
  obtain ⟨b, u, rfl, hDb, hb, ho⟩ := hw0
  obtain ⟨ay, cy, rfl, hy⟩ := hy
  refine Ok_of_W 15 Tryz.func86 rfl rfl rfl ?_
  have hX : Bel False (D) w w := Bel.refl _ _
  refine W_seq (W_region ?_)
  refine Rg_run rfl (o_moveh (v := .pointer _) rfl) ?_
  refine Rg_run rfl (o_pne Tryz.underlying87 rfl rfl) ?_
  refine Rg_nil ?_
  refine W_cond_true rfl ?_
  refine W_region ?_
  refine Rg_run rfl (o_moveh (v := .pointer _) rfl) ?_
  refine Rg_run rfl (o_moveh (v := .pointer _) rfl) ?_
  refine Rg_run rfl (o_nilc rfl) ?_
  refine Rg_run rfl (o_fa Tryz.underlying155 rfl Tryz.sizeOf30 rfl) ?_
  refine Rg_run rfl (o_load1 Tryz.isAgg30 rfl (hb.at.get 0 rfl)) ?_
  refine Rg_run rfl (o_moveh (v := .slice _ _ _) rfl) ?_
  refine Rg_app rfl encB_ok el_b8 rfl rfl ho hy rfl (by omega) (fun g h => ⟨hU g h, fun e => by have := hb.lt; omega⟩) ?_
  intro v12 w1 x2 ho
  have z3 := Bel.size x2
  replace hX := Bel.out hX x2 (fun g h1 h2 => by first | exact h2.1 | (cases h2; exact hDb))
  replace hb := hb.keep x2 (fun h => by omega)
  obtain ⟨a12, c12, hv12, -⟩ := ho.sl encB_ok
  subst hv12
  refine Rg_run rfl (o_nilc rfl) ?_
  refine Rg_run rfl (o_fa Tryz.underlying155 rfl Tryz.sizeOf30 rfl) ?_
  refine Rg_store (v := .slice _ _ _) rfl Tryz.sizeOf30 rfl rfl hb rfl rfl rfl ?_
  intro w4 c5 hb
  have z6 := Bel.size c5
  replace hX := Bel.out hX c5 (fun g h1 h2 => by first | exact h2.1 | (cases h2; exact hDb))
  replace ho := ho.keepD c5 (fun g h1 h2 h3 => by omega)
  refine Rg_nil ?_
  refine ⟨_, res_none rfl, ?_⟩
  exact ⟨rfl, ⟨b, _, rfl, hDb, hb, ho⟩, hX⟩

theorem wuint_ok (v0 : Value) (D : Nat → Prop) (l : List UInt8) (x : W64) (w : World) (hw0 : Wr 155 5 D w v0 l) (hU : ∀ g, w.heap.size ≤ g → D g) (hn : l.length ≤ 90000000) : Ok Tryz.prog 38 #[v0, u64 x] w fun v w' => v = .tuple #[] ∧ Wr 155 5 D w' v0 (l ++ putU x) ∧ Bel False D w w' := by
  have hpl := putU_len x
  refine Ok_of_W 8 Tryz.func38 rfl rfl rfl ?_
  have hX : Bel False (D) w w := Bel.refl _ _
  refine W_region ?_
  refine Rg_run rfl (o_moveh (v := v0) rfl) ?_
  refine Rg_run rfl (o_moveh (v := .int _ _) rfl) ?_
  refine Rg_enter rfl (o_call1 Tryz.call87 rfl) (Ok.mono (wgrp_ok _ _) ?_)
  rintro v6 w1 ⟨hown6, x2⟩
  have z3 := Bel.size x2
  replace hX := Bel.ex hX x2
  replace hw0 := hw0.ext x2
  replace hown6 := hown6.mono (D' := fun g => w.heap.size ≤ g) (fun g h1 h2 => by omega)
  refine Rg_enter rfl (o_call2 Tryz.call86 rfl rfl) (Ok.mono (wraw_ok _ _ _ _ _ _ _ hw0 (fun g h => hU g (by omega)) (hown6.trd encB_ok) (by omega)) ?_)
  rintro _ w4 ⟨rfl, hw0, x5⟩
  have z6 := Bel.size x5
  replace hX := Bel.out hX x5 (fun g h1 h2 => by first | exact h2 | omega)
  refine Rg_nil ?_
  refine ⟨_, res_none rfl, ?_⟩
  exact ⟨rfl, hw0, hX⟩

theorem wbytes_ok (v0 : Value) (D : Nat → Prop) (l : List UInt8) (v1 : Value) (G : Nat → Prop) (y : List UInt8) (w : World) (hw0 : Wr 155 5 D w v0 l) (hU : ∀ g, w.heap.size ≤ g → D g) (hy : Rd encB 1 G w v1 y) (hG : ∀ g, g < w.heap.size → G g → ¬ D g) (hn : l.length + y.length ≤ 80000000) : Ok Tryz.prog 88 #[v0, v1] w fun v w' => v = .tuple #[] ∧ Wr 155 5 D w' v0 (l ++ putB y) ∧ Bel False D w w' := by
  obtain ⟨ay, cy, rfl, hy⟩ := hy
  have hpl := putU_len (BitVec.ofNat 64 y.length)
  replace hy := hy.mono (F' := fun g => ¬ D g) (fun g h1 h2 => hG g h1 h2)
  refine Ok_of_W 12 Tryz.func88 rfl rfl rfl ?_
  have hX : Bel False (D) w w := Bel.refl _ _
  refine W_seq (W_region ?_)
  refine Rg_run rfl (o_moveh (v := v0) rfl) ?_
  refine Rg_run rfl (o_moveh (v := .slice _ _ _) rfl) ?_
  refine Rg_run rfl (o_llen Tryz.underlying30 rfl) ?_
  refine Rg_run rfl (o_convV (n := y.length) Tryz.underlying3 Tryz.underlying50 rfl (by omega)) ?_
  refine Rg_enter rfl (o_call2 Tryz.call38 rfl rfl) (Ok.mono (wuint_ok _ _ _ (BitVec.ofNat 64 y.length) _ hw0 (fun g h => hU g (by omega)) (by omega)) ?_)
  rintro _ w1 ⟨rfl, hw0, x2⟩
  have z3 := Bel.size x2
  replace hX := Bel.out hX x2 (fun g h1 h2 => by first | exact h2 | omega)
  replace hy := hy.keep x2 (fun g _ h => h)
  refine Rg_nil (W_region ?_)
  refine Rg_run rfl (o_moveh (v := v0) rfl) ?_
  refine Rg_run rfl (o_moveh (v := .slice _ _ _) rfl) ?_
  refine Rg_enter rfl (o_call2 Tryz.call86 rfl rfl) (Ok.mono (wraw_ok _ _ _ _ _ _ _ hw0 (fun g h => hU g (by omega)) ⟨_, _, rfl, hy⟩ (by simp; omega)) ?_)
  rintro _ w4 ⟨rfl, hw0, x5⟩
  have z6 := Bel.size x5
  replace hX := Bel.out hX x5 (fun g h1 h2 => by first | exact h2 | omega)
  refine Rg_nil ?_
  refine ⟨_, res_none rfl, ?_⟩
  rw [List.append_assoc] at hw0
  exact ⟨rfl, hw0, hX⟩

theorem wout_ok (v0 : Value) (D : Nat → Prop) (l : List UInt8) (w : World) (hw0 : Wr 155 5 D w v0 l) (hn : l.length ≤ 100000000) : Ok Tryz.prog 40 #[v0] w fun v w' => Own encB 1 5 (Fsh w w') w' v l ∧ Ext False w w' := by
  obtain ⟨b, u, rfl, hDb, hb, ho⟩ := hw0
  refine Ok_of_W 10 Tryz.func40 rfl rfl rfl ?_
  have hX : Ext False w w := Bel.refl _ _
  refine W_seq (W_region ?_)
  refine Rg_run rfl o_assignc ?_
  refine Rg_nil (W_seq (W_seq (W_region ?_)))
  refine Rg_run rfl (o_moveh (v := .pointer _) rfl) ?_
  refine Rg_run rfl (o_peq Tryz.underlying87 rfl rfl) ?_
  refine Rg_nil ?_
  refine W_cond_false rfl ?_
  refine W_skip (W_seq (W_region ?_))
  refine Rg_run rfl (o_moveh (v := .pointer _) rfl) ?_
  refine Rg_run rfl (o_nilc rfl) ?_
  refine Rg_run rfl (o_fa Tryz.underlying155 rfl Tryz.sizeOf30 rfl) ?_
  refine Rg_run rfl (o_load1 Tryz.isAgg30 rfl (hb.at.get 0 rfl)) ?_
  refine Rg_enter rfl (o_call1 Tryz.call90 rfl) (Ok.mono (bclone_ok _ _ _ _ (ho.trd encB_ok) hn) ?_)
  rintro v9 w1 ⟨hown9, x2⟩
  have z3 := Bel.size x2
  replace hX := Bel.ex hX x2
  replace hown9 := hown9.mono (D' := fun g => w.heap.size ≤ g) (fun g h1 h2 => by omega)
  refine Rg_run rfl (o_assignh (v := v9) rfl) ?_
  refine Rg_nil (W_ret ?_)
  refine ⟨_, res_tmp rfl rfl, ?_⟩
  exact ⟨hown9.mono (fun g h1 h2 => ⟨by omega, h1⟩), hX⟩

theorem bgreat_ok (w : World) (s : SV) (Gs : Nat → Prop) (hs : Sl encU 1 Gs w s.a s.c (wl s.x)) : Ok Tryz.prog 103 #[.agg (encSV s).toArray] w fun v w' => v = .tuple #[.int .i64 (topW s.x : Int), .bool (decide (s.x ≠ 0))] ∧ Ext False w w' := by
  replace hs := hs.mono (F' := fun g => Gs g ∧ g < w.heap.size) (fun g h1 h2 => ⟨h2, h1⟩)
  refine Ok_of_W 21 Tryz.func103 rfl rfl rfl ?_
  have hX : Ext False w w := Bel.refl _ _
  refine W_seq (W_region ?_)
  refine Rg_newB rfl (o_box (v := .agg _) rfl) ?_
  intro b1 w1 x2 hge1 hb1
  have hlt1 := hb1.lt
  change Box _ _ _ (encSV _) at hb1
  have z3 := Bel.size x2
  replace hX := Bel.ex hX x2
  replace hs := hs.ext x2
  refine Rg_run rfl o_assignc ?_
  refine Rg_run rfl o_assignc ?_
  refine Rg_nil (W_seq (W_seq (W_region ?_)))
  refine Rg_run rfl (o_loadS Tryz.isAgg36 Tryz.sizeOf36 rfl hb1.at rfl) ?_
  refine Rg_enter rfl (o_call1 Tryz.call35 rfl) (Ok.mono (bempty_ok _ ⟨_, _, _⟩ _ hs) ?_)
  rintro _ w4 ⟨rfl, x5⟩
  have z6 := Bel.size x5
  replace hX := Bel.ex hX x5
  replace hs := hs.ext x5
  replace hb1 := hb1.ext x5
  refine Rg_nil ?_
  refine W_cond rfl (fun hc1 => ?_) (fun hc1 => ?_)
  · skip
    have hx : s.x = 0 := by simpa using hc1
    refine W_seq (W_region ?_)
    refine Rg_run rfl o_assignc ?_
    refine Rg_run rfl o_assignc ?_
    refine Rg_nil (W_ret ?_)
    refine ⟨_, res_tmp2 rfl rfl rfl, ?_⟩
    rw [hx]; exact ⟨rfl, hX⟩
  have hx : s.x ≠ 0 := by simpa using hc1
  have hl1 : (wl s.x).length = 1 := by rw [wl_some hx]; rfl
  refine W_skip (W_seq (W_region ?_))
  refine Rg_run rfl (o_fa Tryz.underlying36 rfl Tryz.sizeOf34 rfl) ?_
  refine Rg_run rfl (o_load1 Tryz.isAgg34 rfl (hb1.at.get 0 rfl)) ?_
  refine Rg_run rfl (o_llen Tryz.underlying34 rfl) ?_
  rw [hl1]
  refine Rg_run rfl (o_subN (p := 1) (b := 1) rfl rfl (by decide) (by decide)) ?_
  refine Rg_run rfl (o_assignh (v := .int _ _) rfl) ?_
  refine Rg_nil (W_seq (W_region ?_))
  refine Rg_run rfl (o_moveh (v := .int _ _) rfl) ?_
  refine Rg_run rfl (o_mulN (a := 64) (b := 1 - 1) rfl rfl (by decide)) ?_
  refine Rg_run rfl (o_fa Tryz.underlying36 rfl Tryz.sizeOf34 rfl) ?_
  refine Rg_run rfl (o_load1 Tryz.isAgg34 rfl (hb1.at.get 0 rfl)) ?_
  refine Rg_run rfl (o_moveh (v := .int _ _) rfl) ?_
  refine Rg_run rfl (o_iaR Tryz.underlying34 Tryz.sizeOf50 hs rfl rfl (by first | omega | (unfold I64; omega) | (simp; done) | (simp; omega) | (simp at *; omega))) ?_
  refine Rg_run rfl (o_ldR Tryz.isAgg50 hs rfl rfl (getE 0 (by omega)) rfl) ?_
  refine Rg_enter rfl (o_call1 Tryz.call146 rfl) (Ok.mono (len_ok ((wl s.x).getD (1 - 1) 0) _) ?_)
  rintro _ w7 ⟨rfl, x8⟩
  have z9 := Bel.size x8
  replace hX := Bel.ex hX x8
  rw [show (wl s.x).getD (1 - 1) 0 = s.x from wl_get _]
  have hln := len_one hx
  refine Rg_run rfl (o_add rfl rfl (by unfold I64; omega)) ?_
  refine Rg_run rfl (o_sub rfl rfl (by unfold I64; omega)) ?_
  refine Rg_run rfl (o_assignh (v := .int _ _) rfl) ?_
  refine Rg_run rfl o_assignc ?_
  refine Rg_nil (W_ret ?_)
  refine ⟨_, res_tmp2 rfl rfl rfl, ?_⟩
  refine ⟨?_, hX⟩
  rw [decide_eq_true hx, ← hln.1]
  exact congrArg (fun z => Value.tuple #[.int .i64 z, .bool true]) (by omega)

theorem bbytes_ok (w : World) (s : SV) (Gs : Nat → Prop) (hs : Sl encU 1 Gs w s.a s.c (wl s.x)) : Ok Tryz.prog 89 #[.agg (encSV s).toArray] w fun v w' => Own encB 1 5 (Fsh w w') w' v (setB s.x) ∧ Ext False w w' := by
  replace hs := hs.mono (F' := fun g => Gs g ∧ g < w.heap.size) (fun g h1 h2 => ⟨h2, h1⟩)
  refine Ok_of_W 39 Tryz.func89 rfl rfl rfl ?_
  have hX : Ext False w w := Bel.refl _ _
  refine W_seq (W_region ?_)
  refine Rg_newB rfl (o_box (v := .agg _) rfl) ?_
  intro b1 w1 x2 hge1 hb1
  have hlt1 := hb1.lt
  change Box _ _ _ (encSV _) at hb1
  have z3 := Bel.size x2
  replace hX := Bel.ex hX x2
  replace hs := hs.ext x2
  refine Rg_run rfl o_assignc ?_
  refine Rg_nil (W_seq (W_region ?_))
  refine Rg_run rfl (o_loadS Tryz.isAgg36 Tryz.sizeOf36 rfl hb1.at rfl) ?_
  refine Rg_enter rfl (o_call1 Tryz.call103 rfl) (Ok.mono (bgreat_ok _ ⟨_, _, _⟩ _ hs) ?_)
  rintro _ w4 ⟨rfl, x5⟩
  have z6 := Bel.size x5
  replace hX := Bel.ex hX x5
  replace hs := hs.ext x5
  replace hb1 := hb1.ext x5
  refine Rg_run rfl (o_moveh (v := .tuple _) rfl) ?_
  refine Rg_run rfl (o_extract rfl rfl) ?_
  refine Rg_run rfl (o_extract rfl rfl) ?_
  refine Rg_run rfl (o_assignh (v := .int _ _) rfl) ?_
  refine Rg_run rfl (o_assignh (v := .bool _) rfl) ?_
  refine Rg_nil (W_seq (W_seq (W_region ?_)))
  refine Rg_run rfl (o_moveh (v := .bool _) rfl) ?_
  refine Rg_run rfl (o_not rfl) ?_
  refine Rg_nil ?_
  refine W_cond rfl (fun hc1 => ?_) (fun hc1 => ?_)
  · skip
    have hx : s.x = 0 := by simpa using hc1
    refine W_seq (W_region ?_)
    refine Rg_run rfl o_assignc ?_
    refine Rg_nil (W_ret ?_)
    refine ⟨_, res_tmp rfl rfl, ?_⟩
    rw [hx, setB, if_pos rfl]; exact ⟨Own.nil _ _, hX⟩
  have hx : s.x ≠ 0 := by simpa using hc1
  have hl1 : (wl s.x).length = 1 := by rw [wl_some hx]; rfl
  have htw := (topW_spec hx).2.1
  refine W_skip (W_seq (W_region ?_))
  obtain ⟨n0, hn0⟩ : ∃ n, n = w4.heap.size := ⟨_, rfl⟩
  refine Rg_run rfl (o_moveh (v := .int _ _) rfl) ?_
  refine Rg_run rfl (o_quoN (a := topW s.x) (b := 8) rfl rfl (by decide) (by omega)) ?_
  refine Rg_run rfl (o_addN (p := topW s.x / 8) (b := 1) rfl rfl (by omega)) ?_
  refine Rg_make (m := (topW s.x / 8 + 1)) (0 : UInt8) rfl encB_ok el_b8 rfl rfl rfl (by omega) ?_
  intro a17 w7 x8 hown17
  have z9 := Bel.size x8
  replace hX := Bel.ex hX x8
  replace hs := hs.ext x8
  replace hb1 := hb1.ext x8
  replace hown17 := hown17.mono (D' := fun g => n0 ≤ g) (fun g h1 h2 => by omega)
  refine Rg_run rfl (o_assignh (v := .slice _ _ _) rfl) ?_
  refine Rg_nil (W_seq (W_seq (W_region ?_)))
  refine Rg_run rfl (o_moveh (v := .slice _ _ _) rfl) ?_
  refine Rg_run rfl (o_llen Tryz.underlying30 rfl) ?_
  refine Rg_run rfl o_movec ?_
  refine Rg_nil (W_block ?_)
  refine W_for (α := Nat × List UInt8) [(6, 6), (20, 37)] (fun q => [(20, .int .i64 (q.1 : Int))]) (fun q w' => (q.1 ≤ (topW s.x / 8 + 1) ∧ BytI s.x (topW s.x / 8 + 1) q.1 q.2) ∧ Bel False (fun g => n0 ≤ g) w7 w' ∧ (Own encB 1 5 (fun g => n0 ≤ g) w' (.slice a17 (topW s.x / 8 + 1) (topW s.x / 8 + 1)) q.2)) (fun q => (topW s.x / 8 + 1) - q.1) (0, List.replicate (topW s.x / 8 + 1) 0) ⟨rfl, trivial⟩ ⟨⟨Nat.zero_le _, BytI.start _ _⟩, Bel.refl _ _, hown17⟩ ?_
  rintro ⟨k, m⟩ fb12 w11 ⟨⟨hk, hby⟩, hXL10, hown17⟩
  dsimp only at *
  have z13 := Bel.size hXL10
  replace hX := Bel.out hX hXL10 (fun g h1 h2 => by first | exact h2 | omega)
  replace hs := hs.keep hXL10 (fun g h1 h2 h3 => by omega)
  replace hb1 := hb1.keep hXL10 (fun h => by omega)
  have hbl := hby.len
  refine W_seq (W_region ?_)
  refine Rg_run rfl (o_lss rfl rfl) ?_
  refine Rg_nil (W_seq ?_)
  refine W_cond rfl (fun hc2 => ?_) (fun hc2 => ?_)
  · skip
    replace hc2 := of_decide_eq_true hc2
    have hkt : k < (topW s.x / 8 + 1) := by omega
    have hk8 : k < 8 := by omega
    refine W_skip (W_seq (W_block (W_seq (W_region ?_))))
    refine Rg_run rfl (o_moveh (v := .int _ _) rfl) ?_
    refine Rg_run rfl (o_assignh (v := .int _ _) rfl) ?_
    refine Rg_nil (W_region ?_)
    refine Rg_run rfl (o_moveh (v := .slice _ _ _) rfl) ?_
    refine Rg_run rfl (o_moveh (v := .int _ _) rfl) ?_
    refine Rg_run rfl (o_fa Tryz.underlying36 rfl Tryz.sizeOf34 rfl) ?_
    refine Rg_run rfl (o_load1 Tryz.isAgg34 rfl (hb1.at.get 0 rfl)) ?_
    refine Rg_run rfl (o_moveh (v := .int _ _) rfl) ?_
    refine Rg_run rfl (o_quoN (a := k) (b := 8) rfl rfl (by decide) (by omega)) ?_
    refine Rg_run rfl (o_iaR Tryz.underlying34 Tryz.sizeOf50 hs rfl rfl (by first | omega | (unfold I64; omega) | (simp; done) | (simp; omega) | (simp at *; omega))) ?_
    refine Rg_run rfl (o_ldR Tryz.isAgg50 hs rfl rfl (getE 0 (by omega)) rfl) ?_
    rw [show (wl s.x).getD (k / 8) 0 = s.x from by rw [show k / 8 = 0 by omega]; exact wl_get _]
    refine Rg_run rfl (o_moveh (v := .int _ _) rfl) ?_
    refine Rg_run rfl (o_remN (a := k) (b := 8) rfl rfl (by decide) (by omega)) ?_
    refine Rg_run rfl (o_mulN (a := 8) (b := k % 8) rfl rfl (by omega)) ?_
    rw [show 8 * (k % 8) = 8 * k by omega]
    refine Rg_run rfl (o_shrU (a := s.x) (n := 8 * k) rfl rfl (by omega)) ?_
    refine Rg_run rfl (o_convUB Tryz.underlying50 Tryz.underlying5 rfl) ?_
    refine Rg_run rfl (o_iaO (i := k) Tryz.underlying30 Tryz.sizeOf5 hown17 rfl rfl (by omega)) ?_
    refine Rg_elst (u := byteW s.x k) rfl encB_ok Tryz.sizeOf5 rfl rfl rfl hown17 (by omega) ?_
    intro w14 x15 hown17
    have z16 := Bel.size x15
    replace hX := Bel.out hX x15 (fun g h1 h2 => by first | exact h2 | omega)
    replace hXL10 := Bel.out hXL10 x15 (fun g h1 h2 => by first | exact h2 | omega)
    refine Rg_nil (W_region ?_)
    refine Rg_run rfl (o_add rfl rfl (by first | omega | (unfold I64; omega) | (simp; done) | (simp; omega) | (simp at *; omega))) ?_
    refine Rg_run rfl (o_moveh (v := .int _ _) rfl) ?_
    refine Rg_nil ?_
    refine ⟨(k + 1, m.set k (byteW s.x k)), ⟨?_, trivial⟩, ?_, ⟨?_, hXL10, ?_⟩, ?_⟩
    · first | rfl | (go_num) | (exact congrArg _ (by omega))
    · repeat (first | exact off_refl _ _ | exact off_mix | refine off_put rfl ?_ | refine off_putN ?_ | refine off_setL rfl ?_ | refine off_mix' rfl ?_)
    · exact ⟨by omega, hby.step hkt⟩
    · exact hown17
    · omega
  replace hc2 := of_decide_eq_false hc2
  refine W_exit (exAt_hit (W_seq (W_region ?_)))
  refine Rg_run rfl (o_moveh (v := .slice _ _ _) rfl) ?_
  refine Rg_run rfl (o_assignh (v := .slice _ _ _) rfl) ?_
  refine Rg_nil (W_ret ?_)
  refine ⟨_, res_tmp rfl rfl, ?_⟩
  rw [hby.fin (by omega)] at hown17
  rw [setB, if_neg hx]; exact ⟨hown17.mono (fun g h1 h2 => ⟨by omega, h1⟩), hX⟩

theorem wset_ok (v0 : Value) (D : Nat → Prop) (l : List UInt8) (s : SV) (G : Nat → Prop) (w : World) (hw0 : Wr 155 5 D w v0 l) (hU : ∀ g, w.heap.size ≤ g → D g) (hs : Sl encU 1 G w s.a s.c (wl s.x)) (hn : l.length ≤ 70000000) : Ok Tryz.prog 39 #[v0, .agg (encSV s).toArray] w fun v w' => v = .tuple #[] ∧ Wr 155 5 D w' v0 (l ++ putB (setB s.x)) ∧ Bel False D w w' := by
  have hsl := setB_len s.x
  replace hw0 := hw0.mono (D' := fun g => D g ∧ g < w.heap.size) (fun g h1 h2 => ⟨h2, h1⟩)
  refine Ok_of_W 8 Tryz.func39 rfl rfl rfl ?_
  have hX : Bel False (D) w w := Bel.refl _ _
  refine W_seq (W_region ?_)
  refine Rg_newB rfl (o_box (v := .agg _) rfl) ?_
  intro b3 w1 x2 hge3 hb3
  have hlt3 := hb3.lt
  change Box _ _ _ (encSV _) at hb3
  have z3 := Bel.size x2
  replace hX := Bel.ex hX x2
  replace hw0 := hw0.ext x2
  replace hs := hs.ext x2
  refine Rg_nil (W_region ?_)
  refine Rg_run rfl (o_moveh (v := v0) rfl) ?_
  refine Rg_run rfl (o_loadS Tryz.isAgg36 Tryz.sizeOf36 rfl hb3.at rfl) ?_
  refine Rg_enter rfl (o_call1 Tryz.call89 rfl) (Ok.mono (bbytes_ok _ ⟨_, _, _⟩ _ hs) ?_)
  rintro v6 w4 ⟨hown6, x5⟩
  have z6 := Bel.size x5
  replace hX := Bel.ex hX x5
  replace hw0 := hw0.ext x5
  replace hown6 := hown6.mono (D' := fun g => w.heap.size ≤ g) (fun g h1 h2 => by omega)
  obtain ⟨n7, hn7⟩ : ∃ n, n = w4.heap.size := ⟨_, rfl⟩
  refine Rg_enter rfl (o_call2 Tryz.call88 rfl rfl) (Ok.mono (wbytes_ok _ (fun g => D g ∧ ¬ (w.heap.size ≤ g ∧ g < n7)) _ _ _ _ _ (hw0.mono (fun g h1 h2 => ⟨h2.1, by omega⟩)) (fun g h => ⟨hU g (by omega), by omega⟩) ((hown6.mono (D' := fun g => w.heap.size ≤ g ∧ g < n7) (fun g h1 h2 => ⟨h2, by omega⟩)).rd encB_ok) (fun g h1 h2 h3 => h3.2 h2) (show l.length + (setB s.x).length ≤ 80000000 by omega)) ?_)
  rintro _ w7 ⟨rfl, hw0, x8⟩
  have z9 := Bel.size x8
  replace hX := Bel.out hX x8 (fun g h1 h2 => by first | exact h2 | exact h2.1)
  refine Rg_nil ?_
  refine ⟨_, res_none rfl, ?_⟩
  exact ⟨rfl, hw0.mono (fun g h1 h2 => h2.1), hX⟩

end Go.Proofs.YtncmjgmlnnenhaaGreatDoor
