/- Walks, printed by program: each theorem says what a function of the translation returns. -/
import Derived.Test.YtndlnfdaeipifaaGreatDoorWlaw13d
namespace Go.Proofs.YtndlnfdaeipifaaGreatDoor
open Go Go.Lx Go.RowKit
set_option maxRecDepth 100000
set_option linter.unusedVariables false
set_option linter.unusedSimpArgs false
set_option linter.unnecessarySimpa false
theorem grd_ok (v0 : Value) (G : Nat → Prop) (p : List UInt8) (w : World) (hp : Rd encB 1 G w v0 p) (hl : p.length ≤ 1000000) : Ok Tryz.prog 44 #[v0] w fun v w' => (∃ q e, v = .tuple #[q, .int .i64 e] ∧ RdG w' q e (readG p)) ∧ Ext False w w' := by
  obtain ⟨ap, cp, rfl, hp⟩ := hp
  replace hp := hp.mono (F' := fun g => g < w.heap.size) (fun g h1 h2 => h1)
  have hcl := countS_le (p, 0) 1000
  have hcd := countS_dec (p, 0) 1000
  refine Ok_of_W 58 Tryz.func44 rfl rfl rfl ?_
  have hX : Ext False w w := Bel.refl _ _
  refine W_seq ?_
  refine W_region ?_
  refine Rg_run rfl o_assignc ?_
  refine Rg_run rfl o_assignc ?_
  refine Rg_nil ?_
  refine W_seq ?_
  refine W_region ?_
  refine Rg_run rfl (o_moveh (v := .slice _ _ _) rfl) ?_
  refine Rg_enter rfl (o_call1 Tryz.call86 rfl) (Ok.mono (rnew_ok _ _ p _ ⟨_, _, rfl, hp⟩ (by omega)) ?_)
  rintro v10 w1 ⟨hownr, x2⟩
  have z3 := Bel.size x2
  replace hX := Bel.ex hX x2
  replace hp := hp.ext x2
  obtain ⟨n1, hn1⟩ : ∃ n, n = w1.heap.size := ⟨_, rfl⟩
  replace hownr := hownr.mono (D' := fun g => w.heap.size ≤ g ∧ g < n1) (fun g h1 h2 => ⟨by omega, by omega⟩)
  refine Rg_enter rfl (o_call0 Tryz.call29) (Ok.mono (gnewF_ok _) ?_)
  rintro _ w4 ⟨p11, rfl, hkk, x5⟩
  have z6 := Bel.size x5
  replace hX := Bel.ex hX x5
  replace hp := hp.ext x5
  replace hownr := hownr.ext x5
  refine Rg_run rfl (o_assignh (v := v10) rfl) ?_
  refine Rg_run rfl (o_assignh (v := .pointer _) rfl) ?_
  refine Rg_nil ?_
  refine W_seq ?_
  refine W_seq ?_
  refine W_region ?_
  refine Rg_run rfl (o_moveh (v := v10) rfl) ?_
  refine Rg_enter rfl (o_call2 Tryz.call87 rfl rfl) (Ok.mono (rcount_ok v10 _ (p, 0) 1000 (by omega) _ hownr (by simp only; omega)) ?_)
  rintro _ w7 ⟨rfl, hownr, x8⟩
  have z9 := Bel.size x8
  replace hX := Bel.out hX x8 (fun g h1 h2 => by first | exact h2 | omega)
  replace hp := hp.keep x8 (fun g h1 h2 h3 => by omega)
  replace hkk := hkk.keep x8 (fun g h1 h2 h3 => by omega)
  refine Rg_run rfl o_movec ?_
  refine Rg_nil ?_
  refine W_block ?_
  refine W_for (α := Nat × RSt × List Ent × Value) [(2, 3), (5, 8), (14, 46)] (fun q => [(14, .int .i64 (q.1 : Int)), (5, q.2.2.2)]) (fun q w' => (q.1 ≤ (countS (p, 0) 1000).2 ∧ OkG q.2.2.1 ∧ rdGo (countS (p, 0) 1000).2 (countS (p, 0) 1000).1 [] = rdGo ((countS (p, 0) 1000).2 - q.1) q.2.1 q.2.2.1 ∧ q.2.1.1.length ≤ 1000000) ∧ Bel False (fun g => w.heap.size ≤ g) w7 w' ∧ (Rr 175 (fun g => w.heap.size ≤ g ∧ g < n1) w' v10 q.2.1 ∧ GbF (fun g => n1 ≤ g) w' q.2.2.2 q.2.2.1)) (fun q => (countS (p, 0) 1000).2 - q.1) (0, (countS (p, 0) 1000).1, [], .pointer (some ⟨p11, 0, none⟩)) ⟨rfl, rfl, trivial⟩ ⟨⟨Nat.zero_le _, OkG.nil, rfl, by simp only at hcd ⊢; omega⟩, Bel.refl _ _, ⟨hownr, hkk.mono (fun g h1 h2 => by omega)⟩⟩ ?_
  rintro ⟨k, s, m, vb⟩ fb12 w11 ⟨⟨hk, hm, hrd, hsl⟩, hXL10, ⟨hownr, hkk⟩⟩
  dsimp only at *
  have z13 := Bel.size hXL10
  replace hX := Bel.out hX hXL10 (fun g h1 h2 => by first | exact h2 | omega)
  replace hp := hp.keep hXL10 (fun g h1 h2 h3 => by omega)
  obtain ⟨n0, hn0⟩ : ∃ n, n = w11.heap.size := ⟨_, rfl⟩
  replace hkk : GbF (fun g => n1 ≤ g ∧ g < n0) _ _ _ := hkk.mono (fun g h1 h2 => ⟨h2, by omega⟩)
  refine W_seq ?_
  refine W_region ?_
  refine Rg_run rfl (o_lss rfl rfl) ?_
  refine Rg_nil ?_
  refine W_seq ?_
  refine W_cond rfl (fun hc1 => ?_) (fun hc1 => ?_)
  · skip
    replace hc1 := of_decide_eq_true hc1
    have hkN : k < (countS (p, 0) 1000).2 := by omega
    refine W_skip ?_
    refine W_seq ?_
    refine W_block ?_
    refine W_seq ?_
    refine W_region ?_
    have hd1 := uintS_dec s (BitVec.ofNat 64 63); have hd2 := bytesS_dec (uintS s (BitVec.ofNat 64 63)).1 12; have hd3 := bytesS_dec (bytesS (uintS s (BitVec.ofNat 64 63)).1 12).1 104; have hd4 := flagS_dec (bytesS (bytesS (uintS s (BitVec.ofNat 64 63)).1 12).1 104).1
    refine Rg_run rfl (o_moveh (v := v10) rfl) ?_
    refine Rg_enter rfl (o_call2 Tryz.call88 rfl rfl) (Ok.mono (rnumber_ok v10 _ s 63 (by omega) _ hownr (by omega)) ?_)
    rintro _ w14 ⟨rfl, hownr, x15⟩
    have z16 := Bel.size x15
    replace hX := Bel.out hX x15 (fun g h1 h2 => by first | exact h2 | omega)
    replace hXL10 := Bel.out hXL10 x15 (fun g h1 h2 => by first | exact h2 | omega)
    replace hp := hp.keep x15 (fun g h1 h2 h3 => by omega)
    replace hkk := hkk.keep x15 (fun g h1 h2 h3 => by omega)
    refine Rg_run rfl (o_build (cells := encE ⟨((uintS s (BitVec.ofNat 64 63)).2.toNat : Int), ⟨[], [], false⟩⟩) (vs := [(0, .int _ _)]) rfl (by kernel_rfl)) ?_
    refine Rg_alst rfl rfl Tryz.zeroValue76 rfl Tryz.sizeOf76 (fun _ => rfl) rfl rfl ?_
    intro b6 w17 x18 hge6 hb6
    have hlt6 := hb6.lt
    change Box _ _ _ (encE _) at hb6
    have z19 := Bel.size x18
    replace hX := Bel.ex hX x18
    replace hXL10 := Bel.ex hXL10 x18
    replace hp := hp.ext x18
    replace hownr := hownr.ext x18
    replace hkk := hkk.ext x18
    refine Rg_nil ?_
    refine W_seq ?_
    refine W_region ?_
    refine Rg_run rfl (o_moveh (v := v10) rfl) ?_
    refine Rg_enter rfl (o_call2 Tryz.call89 rfl rfl) (Ok.mono (rstr_ok v10 _ (uintS s (BitVec.ofNat 64 63)).1 12 (by omega) _ hownr (by omega)) ?_)
    rintro _ w20 ⟨rfl, hownr, x21⟩
    have z22 := Bel.size x21
    replace hX := Bel.out hX x21 (fun g h1 h2 => by first | exact h2 | omega)
    replace hXL10 := Bel.out hXL10 x21 (fun g h1 h2 => by first | exact h2 | omega)
    replace hp := hp.keep x21 (fun g h1 h2 h3 => by omega)
    replace hkk := hkk.keep x21 (fun g h1 h2 h3 => by omega)
    replace hb6 := hb6.keep x21 (fun h => by omega)
    refine Rg_run rfl (o_fa Tryz.underlying76 rfl Tryz.sizeOf52 rfl) ?_
    refine Rg_run rfl (o_fa Tryz.underlying52 rfl Tryz.sizeOf9 rfl) ?_
    refine Rg_store (v := str _) rfl Tryz.sizeOf9 rfl rfl hb6 rfl rfl rfl ?_
    intro w23 c24 hb6
    change Box _ _ _ ([.int _ _, str _, str _, .bool _]) at hb6
    have z25 := Bel.size c24
    replace hX := Bel.out hX c24 (fun g h1 h2 => by first | exact h2 | omega)
    replace hXL10 := Bel.out hXL10 c24 (fun g h1 h2 => by first | exact h2 | omega)
    replace hp := hp.keep c24 (fun g h1 h2 h3 => by omega)
    replace hownr := hownr.keepD c24 (fun g h1 h2 h3 => by omega)
    replace hkk := hkk.keep c24 (fun g h1 h2 h3 => by omega)
    refine Rg_nil ?_
    refine W_seq ?_
    refine W_region ?_
    refine Rg_run rfl (o_moveh (v := v10) rfl) ?_
    refine Rg_enter rfl (o_call2 Tryz.call89 rfl rfl) (Ok.mono (rstr_ok v10 _ (bytesS (uintS s (BitVec.ofNat 64 63)).1 12).1 104 (by omega) _ hownr (by omega)) ?_)
    rintro _ w26 ⟨rfl, hownr, x27⟩
    have z28 := Bel.size x27
    replace hX := Bel.out hX x27 (fun g h1 h2 => by first | exact h2 | omega)
    replace hXL10 := Bel.out hXL10 x27 (fun g h1 h2 => by first | exact h2 | omega)
    replace hp := hp.keep x27 (fun g h1 h2 h3 => by omega)
    replace hkk := hkk.keep x27 (fun g h1 h2 h3 => by omega)
    replace hb6 := hb6.keep x27 (fun h => by omega)
    refine Rg_run rfl (o_fa Tryz.underlying76 rfl Tryz.sizeOf52 rfl) ?_
    refine Rg_run rfl (o_fa Tryz.underlying52 rfl Tryz.sizeOf9 rfl) ?_
    refine Rg_store (v := str _) rfl Tryz.sizeOf9 rfl rfl hb6 rfl rfl rfl ?_
    intro w29 c30 hb6
    change Box _ _ _ ([.int _ _, str _, str _, .bool _]) at hb6
    have z31 := Bel.size c30
    replace hX := Bel.out hX c30 (fun g h1 h2 => by first | exact h2 | omega)
    replace hXL10 := Bel.out hXL10 c30 (fun g h1 h2 => by first | exact h2 | omega)
    replace hp := hp.keep c30 (fun g h1 h2 h3 => by omega)
    replace hownr := hownr.keepD c30 (fun g h1 h2 h3 => by omega)
    replace hkk := hkk.keep c30 (fun g h1 h2 h3 => by omega)
    refine Rg_nil ?_
    refine W_seq ?_
    refine W_region ?_
    refine Rg_run rfl (o_moveh (v := v10) rfl) ?_
    refine Rg_enter rfl (o_call1 Tryz.call90 rfl) (Ok.mono (rflag_ok v10 _ (bytesS (bytesS (uintS s (BitVec.ofNat 64 63)).1 12).1 104).1 _ hownr (by omega)) ?_)
    rintro _ w32 ⟨rfl, hownr, x33⟩
    have z34 := Bel.size x33
    replace hX := Bel.out hX x33 (fun g h1 h2 => by first | exact h2 | omega)
    replace hXL10 := Bel.out hXL10 x33 (fun g h1 h2 => by first | exact h2 | omega)
    replace hp := hp.keep x33 (fun g h1 h2 h3 => by omega)
    replace hkk := hkk.keep x33 (fun g h1 h2 h3 => by omega)
    replace hb6 := hb6.keep x33 (fun h => by omega)
    refine Rg_run rfl (o_fa Tryz.underlying76 rfl Tryz.sizeOf52 rfl) ?_
    refine Rg_run rfl (o_fa Tryz.underlying52 rfl Tryz.sizeOf4 rfl) ?_
    refine Rg_store (v := .bool _) rfl Tryz.sizeOf4 rfl rfl hb6 rfl rfl rfl ?_
    intro w35 c36 hb6
    change Box _ _ _ ([.int _ _, str _, str _, .bool _]) at hb6
    have z37 := Bel.size c36
    replace hX := Bel.out hX c36 (fun g h1 h2 => by first | exact h2 | omega)
    replace hXL10 := Bel.out hXL10 c36 (fun g h1 h2 => by first | exact h2 | omega)
    replace hp := hp.keep c36 (fun g h1 h2 h3 => by omega)
    replace hownr := hownr.keepD c36 (fun g h1 h2 h3 => by omega)
    replace hkk := hkk.keep c36 (fun g h1 h2 h3 => by omega)
    refine Rg_nil ?_
    refine W_seq ?_
    refine W_seq ?_
    refine W_region ?_
    refine Rg_run rfl (o_moveh (v := v10) rfl) ?_
    refine Rg_enter rfl (o_call1 Tryz.call91 rfl) (Ok.mono (rerr_ok v10 _ (flagS (bytesS (bytesS (uintS s (BitVec.ofNat 64 63)).1 12).1 104).1).1 _ hownr) ?_)
    rintro _ w38 ⟨rfl, x39⟩
    have z40 := Bel.size x39
    replace hX := Bel.ex hX x39
    replace hXL10 := Bel.ex hXL10 x39
    replace hp := hp.ext x39
    replace hownr := hownr.ext x39
    replace hkk := hkk.ext x39
    replace hb6 := hb6.ext x39
    refine Rg_run rfl (o_neq rfl rfl) ?_
    refine Rg_nil ?_
    refine W_cond rfl (fun hc2 => ?_) (fun hc2 => ?_)
    · skip
      have hbrk : (rdE s).1.2 ≠ 0 := by show (flagS (bytesS (bytesS (uintS s (BitVec.ofNat 64 63)).1 12).1 104).1).1.2 ≠ 0; simpa using hc2
      refine W_exit ?_
      refine exAt_miss rfl ?_
      refine exAt_hit ?_
      refine W_seq ?_
      refine W_seq ?_
      refine W_region ?_
      obtain ⟨sf, mf, hfin, hmf, hownr, hkk⟩ : ∃ sf mf, rdGo (countS (p, 0) 1000).2 (countS (p, 0) 1000).1 [] = some (sf, mf) ∧ OkG mf ∧ Rr 175 (fun g => w.heap.size ≤ g ∧ g < n1) w38 v10 sf ∧ GbF (fun g => n1 ≤ g) w38 vb mf := ⟨(rdE s).1, m, hrd.trans (rdGo_brk (by omega) hbrk), hm, hownr, hkk.mono (fun g h1 h2 => by omega)⟩
      refine Rg_run rfl (o_moveh (v := v10) rfl) ?_
      refine Rg_enter rfl (o_call1 Tryz.call92 rfl) (Ok.mono (rend_ok v10 _ sf _ hownr) ?_)
      rintro _ w41 ⟨rfl, x42⟩
      have z43 := Bel.size x42
      replace hX := Bel.ex hX x42
      replace hp := hp.ext x42
      replace hkk := hkk.ext x42
      refine Rg_run rfl (o_neq rfl rfl) ?_
      refine (Decidable.em (endS sf = 0)).elim (fun hend => ?_) (fun hend => ?_)
      · skip
        refine Rg_run rfl (o_moveh (v := .bool _) rfl) ?_
        refine Rg_on 3 50 rfl (congrArg Value.bool (show (endS sf != 0) = false by rw [hend]; rfl)) ?_
        refine Rg_run rfl (o_moveh (v := vb) rfl) ?_
        refine Rg_on 3 50 rfl (congrArg Value.bool (show (endS sf != 0) = false by rw [hend]; rfl)) ?_
        refine Rg_enter rfl (o_call1 Tryz.call32 rfl) (Ok.mono (gbytes_ok vb mf _ hkk.is hmf) ?_)
        rintro v52 w44 ⟨hown52, x45⟩
        have z46 := Bel.size x45
        replace hX := Bel.ex hX x45
        replace hp := hp.ext x45
        replace hkk := hkk.ext x45
        replace hown52 := hown52.mono (D' := fun g => w.heap.size ≤ g) (fun g h1 h2 => by omega)
        refine Rg_on 3 50 rfl (congrArg Value.bool (show (endS sf != 0) = false by rw [hend]; rfl)) ?_
        refine Rg_run rfl (o_moveh (v := .slice _ _ _) rfl) ?_
        refine Rg_on 3 50 rfl (congrArg Value.bool (show (endS sf != 0) = false by rw [hend]; rfl)) ?_
        refine Rg_enter rfl (o_call2 Tryz.call93 rfl rfl) (Ok.mono (beqb_ok _ _ _ _ _ _ _ (hown52.trd encB_ok) ⟨_, _, rfl, hp⟩) ?_)
        rintro _ w47 ⟨rfl, x48⟩
        have z49 := Bel.size x48
        replace hX := Bel.ex hX x48
        replace hkk := hkk.ext x48
        refine (Decidable.em (gbytes mf = p)).elim (fun heq => ?_) (fun heq => ?_)
        · skip
          refine Rg_on 3 50 rfl (congrArg Value.bool (show (endS sf != 0) = false by rw [hend]; rfl)) ?_
          refine Rg_run rfl (o_not rfl) ?_
          refine Rg_run rfl (o_pickF (v := .bool _) (congrArg Value.bool (show (endS sf != 0) = false by rw [hend]; rfl)) rfl) ?_
          refine Rg_nil ?_
          refine W_cond_false (congrArg Value.bool (show (!(gbytes mf == p)) = false by rw [heq]; simp)) ?_
          refine W_skip ?_
          refine W_seq ?_
          refine W_region ?_
          refine Rg_run rfl (o_moveh (v := vb) rfl) ?_
          refine Rg_run rfl (o_assignh (v := vb) rfl) ?_
          refine Rg_run rfl o_assignc ?_
          refine Rg_nil ?_
          refine W_ret ?_
          refine ⟨_, res_tmp2 rfl rfl rfl, ?_⟩
          first | exact ⟨⟨_, _, rfl, (by rw [hres]; exact ⟨rfl, rfl⟩)⟩, hX⟩ | exact ⟨⟨_, _, rfl, (by rw [readG_end1 hfin hend]; exact ⟨rfl, rfl⟩)⟩, hX⟩ | exact ⟨⟨_, _, rfl, (by rw [readG_end2 hfin heq]; exact ⟨rfl, rfl⟩)⟩, hX⟩ | exact ⟨⟨_, _, rfl, (by rw [readG_end3 hfin hend heq]; exact ⟨rfl, hkk.is⟩)⟩, hX⟩
        · skip
          refine Rg_on 3 50 rfl (congrArg Value.bool (show (endS sf != 0) = false by rw [hend]; rfl)) ?_
          refine Rg_run rfl (o_not rfl) ?_
          refine Rg_run rfl (o_pickF (v := .bool _) (congrArg Value.bool (show (endS sf != 0) = false by rw [hend]; rfl)) rfl) ?_
          refine Rg_nil ?_
          refine W_cond_true (congrArg Value.bool (show (!(gbytes mf == p)) = true by rw [beq_eq_false_iff_ne.2 heq]; rfl)) ?_
          refine W_seq ?_
          refine W_region ?_
          refine Rg_run rfl o_assignc ?_
          refine Rg_run rfl o_assignc ?_
          refine Rg_nil ?_
          refine W_ret ?_
          refine ⟨_, res_tmp2 rfl rfl rfl, ?_⟩
          first | exact ⟨⟨_, _, rfl, (by rw [hres]; exact ⟨rfl, rfl⟩)⟩, hX⟩ | exact ⟨⟨_, _, rfl, (by rw [readG_end1 hfin hend]; exact ⟨rfl, rfl⟩)⟩, hX⟩ | exact ⟨⟨_, _, rfl, (by rw [readG_end2 hfin heq]; exact ⟨rfl, rfl⟩)⟩, hX⟩ | exact ⟨⟨_, _, rfl, (by rw [readG_end3 hfin hend heq]; exact ⟨rfl, hkk.is⟩)⟩, hX⟩
      · skip
        refine Rg_run rfl (o_moveh (v := .bool _) rfl) ?_
        refine Rg_off 3 50 rfl rfl (congrArg Value.bool (show (endS sf != 0) = true from bne_iff_ne.2 hend)) rfl rfl ?_
        refine Rg_off 3 50 rfl rfl (congrArg Value.bool (show (endS sf != 0) = true from bne_iff_ne.2 hend)) rfl rfl ?_
        refine Rg_off 3 50 rfl rfl (congrArg Value.bool (show (endS sf != 0) = true from bne_iff_ne.2 hend)) rfl rfl ?_
        refine Rg_off 3 50 rfl rfl (congrArg Value.bool (show (endS sf != 0) = true from bne_iff_ne.2 hend)) rfl rfl ?_
        refine Rg_off 3 50 rfl rfl (congrArg Value.bool (show (endS sf != 0) = true from bne_iff_ne.2 hend)) rfl rfl ?_
        refine Rg_run rfl (o_pickT (v := .bool _) (congrArg Value.bool (show (endS sf != 0) = true from bne_iff_ne.2 hend)) rfl) ?_
        refine Rg_nil ?_
        refine W_cond_true rfl ?_
        refine W_seq ?_
        refine W_region ?_
        refine Rg_run rfl o_assignc ?_
        refine Rg_run rfl o_assignc ?_
        refine Rg_nil ?_
        refine W_ret ?_
        refine ⟨_, res_tmp2 rfl rfl rfl, ?_⟩
        first | exact ⟨⟨_, _, rfl, (by rw [hres]; exact ⟨rfl, rfl⟩)⟩, hX⟩ | exact ⟨⟨_, _, rfl, (by rw [readG_end1 hfin hend]; exact ⟨rfl, rfl⟩)⟩, hX⟩ | exact ⟨⟨_, _, rfl, (by rw [readG_end2 hfin heq]; exact ⟨rfl, rfl⟩)⟩, hX⟩ | exact ⟨⟨_, _, rfl, (by rw [readG_end3 hfin hend heq]; exact ⟨rfl, hkk.is⟩)⟩, hX⟩
    · skip
      have hgo : (rdE s).1.2 = 0 := by show (flagS (bytesS (bytesS (uintS s (BitVec.ofNat 64 63)).1 12).1 104).1).1.2 = 0; simpa using hc2
      refine W_skip ?_
      refine W_seq ?_
      refine W_region ?_
      refine Rg_run rfl (o_moveh (v := vb) rfl) ?_
      refine Rg_run rfl (o_fa Tryz.underlying76 rfl Tryz.sizeOf3 rfl) ?_
      refine Rg_run rfl (o_load1 Tryz.isAgg3 rfl (hb6.at.get 0 rfl)) ?_
      refine Rg_run rfl (o_fa Tryz.underlying76 rfl Tryz.sizeOf52 rfl) ?_
      refine Rg_run rfl (o_loadS Tryz.isAgg52 Tryz.sizeOf52 rfl (hb6.at.sub 1 3) rfl) ?_
      refine Rg_enter rfl (o_call3 Tryz.call30 rfl rfl rfl) (Ok.mono (ggrantF_ok vb m _ hkk.is hm (rdE s).2 (rdE_ok s)) ?_)
      rintro _ w50 ⟨⟨p40, rfl, hp40⟩, x51⟩
      have z52 := Bel.size x51
      replace hX := Bel.ex hX x51
      replace hXL10 := Bel.ex hXL10 x51
      replace hownr := hownr.ext x51
      replace hkk := hkk.ext x51
      refine Rg_run rfl (o_moveh (v := .tuple _) rfl) ?_
      refine Rg_run rfl (o_extract rfl rfl) ?_
      refine Rg_run rfl (o_extract rfl rfl) ?_
      refine Rg_run rfl (o_assignh (v := p40) rfl) ?_
      refine Rg_run rfl (o_assignh (v := .int _ _) rfl) ?_
      refine Rg_nil ?_
      refine W_seq ?_
      refine W_seq ?_
      refine W_region ?_
      refine Rg_run rfl (o_moveh (v := .int _ _) rfl) ?_
      refine Rg_run rfl (o_neq rfl rfl) ?_
      refine Rg_nil ?_
      refine W_cond rfl (fun hc6 => ?_) (fun hc6 => ?_)
      · skip
        have herr : (grantR m (rdE s).2).2 ≠ 0 := by simpa using hc6
        have hres : readG p = none := readG_err (hrd.trans (rdGo_err hkN hgo herr))
        refine W_seq ?_
        refine W_region ?_
        refine Rg_run rfl o_assignc ?_
        refine Rg_run rfl o_assignc ?_
        refine Rg_nil ?_
        refine W_ret ?_
        refine ⟨_, res_tmp2 rfl rfl rfl, ?_⟩
        first | exact ⟨⟨_, _, rfl, (by rw [hres]; exact ⟨rfl, rfl⟩)⟩, hX⟩ | exact ⟨⟨_, _, rfl, (by rw [readG_end1 hfin hend]; exact ⟨rfl, rfl⟩)⟩, hX⟩ | exact ⟨⟨_, _, rfl, (by rw [readG_end2 hfin heq]; exact ⟨rfl, rfl⟩)⟩, hX⟩ | exact ⟨⟨_, _, rfl, (by rw [readG_end3 hfin hend heq]; exact ⟨rfl, hkk.is⟩)⟩, hX⟩
      · skip
        have hok3 : (grantR m (rdE s).2).2 = 0 := by simpa using hc6
        refine W_skip ?_
        refine W_region ?_
        refine Rg_run rfl (o_moveh (v := p40) rfl) ?_
        refine Rg_run rfl (o_assignh (v := p40) rfl) ?_
        refine Rg_nil ?_
        refine W_region ?_
        refine Rg_run rfl (o_add rfl rfl (by first | omega | (unfold I64; omega) | (simp; done) | (simp; omega) | (simp at *; omega))) ?_
        refine Rg_run rfl (o_moveh (v := .int _ _) rfl) ?_
        refine Rg_nil ?_
        refine ⟨(k + 1, (rdE s).1, (grantR m (rdE s).2).1, p40), ⟨?_, ?_, trivial⟩, ?_, ⟨?_, hXL10, ?_⟩, ?_⟩
        · first | rfl | (go_num) | (exact congrArg _ (by omega))
        · first | rfl | (go_num) | (exact congrArg _ (by omega))
        · repeat (first | exact off_refl _ _ | exact off_mix | refine off_put rfl ?_ | refine off_putN ?_ | refine off_setL rfl ?_ | refine off_mix' rfl ?_)
        · exact ⟨by show k + 1 ≤ _; omega, hm.grant (rdE_ok s), hrd.trans (rdGo_on hkN hgo hok3), Nat.le_trans (rdE_dec s) hsl⟩
        · exact ⟨hownr, (hp40.1 hok3).mono (fun g h1 h2 => by omega)⟩
        · show (countS (p, 0) 1000).2 - (k + 1) < (countS (p, 0) 1000).2 - k; omega
  · skip
    replace hc1 := of_decide_eq_false hc1
    refine W_exit ?_
    refine exAt_hit ?_
    refine W_seq ?_
    refine W_seq ?_
    refine W_region ?_
    obtain ⟨sf, mf, hfin, hmf, hownr, hkk⟩ : ∃ sf mf, rdGo (countS (p, 0) 1000).2 (countS (p, 0) 1000).1 [] = some (sf, mf) ∧ OkG mf ∧ Rr 175 (fun g => w.heap.size ≤ g ∧ g < n1) w11 v10 sf ∧ GbF (fun g => n1 ≤ g) w11 vb mf := ⟨s, m, (by rw [hrd, show (countS (p, 0) 1000).2 - k = 0 by omega]; rfl), hm, hownr, hkk.mono (fun g h1 h2 => by omega)⟩
    refine Rg_run rfl (o_moveh (v := v10) rfl) ?_
    refine Rg_enter rfl (o_call1 Tryz.call92 rfl) (Ok.mono (rend_ok v10 _ sf _ hownr) ?_)
    rintro _ w53 ⟨rfl, x54⟩
    have z55 := Bel.size x54
    replace hX := Bel.ex hX x54
    replace hp := hp.ext x54
    replace hkk := hkk.ext x54
    refine Rg_run rfl (o_neq rfl rfl) ?_
    refine (Decidable.em (endS sf = 0)).elim (fun hend => ?_) (fun hend => ?_)
    · skip
      refine Rg_run rfl (o_moveh (v := .bool _) rfl) ?_
      refine Rg_on 3 50 rfl (congrArg Value.bool (show (endS sf != 0) = false by rw [hend]; rfl)) ?_
      refine Rg_run rfl (o_moveh (v := vb) rfl) ?_
      refine Rg_on 3 50 rfl (congrArg Value.bool (show (endS sf != 0) = false by rw [hend]; rfl)) ?_
      refine Rg_enter rfl (o_call1 Tryz.call32 rfl) (Ok.mono (gbytes_ok vb mf _ hkk.is hmf) ?_)
      rintro v52 w56 ⟨hown52, x57⟩
      have z58 := Bel.size x57
      replace hX := Bel.ex hX x57
      replace hp := hp.ext x57
      replace hkk := hkk.ext x57
      replace hown52 := hown52.mono (D' := fun g => w.heap.size ≤ g) (fun g h1 h2 => by omega)
      refine Rg_on 3 50 rfl (congrArg Value.bool (show (endS sf != 0) = false by rw [hend]; rfl)) ?_
      refine Rg_run rfl (o_moveh (v := .slice _ _ _) rfl) ?_
      refine Rg_on 3 50 rfl (congrArg Value.bool (show (endS sf != 0) = false by rw [hend]; rfl)) ?_
      refine Rg_enter rfl (o_call2 Tryz.call93 rfl rfl) (Ok.mono (beqb_ok _ _ _ _ _ _ _ (hown52.trd encB_ok) ⟨_, _, rfl, hp⟩) ?_)
      rintro _ w59 ⟨rfl, x60⟩
      have z61 := Bel.size x60
      replace hX := Bel.ex hX x60
      replace hkk := hkk.ext x60
      refine (Decidable.em (gbytes mf = p)).elim (fun heq => ?_) (fun heq => ?_)
      · skip
        refine Rg_on 3 50 rfl (congrArg Value.bool (show (endS sf != 0) = false by rw [hend]; rfl)) ?_
        refine Rg_run rfl (o_not rfl) ?_
        refine Rg_run rfl (o_pickF (v := .bool _) (congrArg Value.bool (show (endS sf != 0) = false by rw [hend]; rfl)) rfl) ?_
        refine Rg_nil ?_
        refine W_cond_false (congrArg Value.bool (show (!(gbytes mf == p)) = false by rw [heq]; simp)) ?_
        refine W_skip ?_
        refine W_seq ?_
        refine W_region ?_
        refine Rg_run rfl (o_moveh (v := vb) rfl) ?_
        refine Rg_run rfl (o_assignh (v := vb) rfl) ?_
        refine Rg_run rfl o_assignc ?_
        refine Rg_nil ?_
        refine W_ret ?_
        refine ⟨_, res_tmp2 rfl rfl rfl, ?_⟩
        first | exact ⟨⟨_, _, rfl, (by rw [hres]; exact ⟨rfl, rfl⟩)⟩, hX⟩ | exact ⟨⟨_, _, rfl, (by rw [readG_end1 hfin hend]; exact ⟨rfl, rfl⟩)⟩, hX⟩ | exact ⟨⟨_, _, rfl, (by rw [readG_end2 hfin heq]; exact ⟨rfl, rfl⟩)⟩, hX⟩ | exact ⟨⟨_, _, rfl, (by rw [readG_end3 hfin hend heq]; exact ⟨rfl, hkk.is⟩)⟩, hX⟩
      · skip
        refine Rg_on 3 50 rfl (congrArg Value.bool (show (endS sf != 0) = false by rw [hend]; rfl)) ?_
        refine Rg_run rfl (o_not rfl) ?_
        refine Rg_run rfl (o_pickF (v := .bool _) (congrArg Value.bool (show (endS sf != 0) = false by rw [hend]; rfl)) rfl) ?_
        refine Rg_nil ?_
        refine W_cond_true (congrArg Value.bool (show (!(gbytes mf == p)) = true by rw [beq_eq_false_iff_ne.2 heq]; rfl)) ?_
        refine W_seq ?_
        refine W_region ?_
        refine Rg_run rfl o_assignc ?_
        refine Rg_run rfl o_assignc ?_
        refine Rg_nil ?_
        refine W_ret ?_
        refine ⟨_, res_tmp2 rfl rfl rfl, ?_⟩
        first | exact ⟨⟨_, _, rfl, (by rw [hres]; exact ⟨rfl, rfl⟩)⟩, hX⟩ | exact ⟨⟨_, _, rfl, (by rw [readG_end1 hfin hend]; exact ⟨rfl, rfl⟩)⟩, hX⟩ | exact ⟨⟨_, _, rfl, (by rw [readG_end2 hfin heq]; exact ⟨rfl, rfl⟩)⟩, hX⟩ | exact ⟨⟨_, _, rfl, (by rw [readG_end3 hfin hend heq]; exact ⟨rfl, hkk.is⟩)⟩, hX⟩
    · skip
      refine Rg_run rfl (o_moveh (v := .bool _) rfl) ?_
      refine Rg_off 3 50 rfl rfl (congrArg Value.bool (show (endS sf != 0) = true from bne_iff_ne.2 hend)) rfl rfl ?_
      refine Rg_off 3 50 rfl rfl (congrArg Value.bool (show (endS sf != 0) = true from bne_iff_ne.2 hend)) rfl rfl ?_
      refine Rg_off 3 50 rfl rfl (congrArg Value.bool (show (endS sf != 0) = true from bne_iff_ne.2 hend)) rfl rfl ?_
      refine Rg_off 3 50 rfl rfl (congrArg Value.bool (show (endS sf != 0) = true from bne_iff_ne.2 hend)) rfl rfl ?_
      refine Rg_off 3 50 rfl rfl (congrArg Value.bool (show (endS sf != 0) = true from bne_iff_ne.2 hend)) rfl rfl ?_
      refine Rg_run rfl (o_pickT (v := .bool _) (congrArg Value.bool (show (endS sf != 0) = true from bne_iff_ne.2 hend)) rfl) ?_
      refine Rg_nil ?_
      refine W_cond_true rfl ?_
      refine W_seq ?_
      refine W_region ?_
      refine Rg_run rfl o_assignc ?_
      refine Rg_run rfl o_assignc ?_
      refine Rg_nil ?_
      refine W_ret ?_
      refine ⟨_, res_tmp2 rfl rfl rfl, ?_⟩
      first | exact ⟨⟨_, _, rfl, (by rw [hres]; exact ⟨rfl, rfl⟩)⟩, hX⟩ | exact ⟨⟨_, _, rfl, (by rw [readG_end1 hfin hend]; exact ⟨rfl, rfl⟩)⟩, hX⟩ | exact ⟨⟨_, _, rfl, (by rw [readG_end2 hfin heq]; exact ⟨rfl, rfl⟩)⟩, hX⟩ | exact ⟨⟨_, _, rfl, (by rw [readG_end3 hfin hend heq]; exact ⟨rfl, hkk.is⟩)⟩, hX⟩

end Go.Proofs.YtndlnfdaeipifaaGreatDoor
