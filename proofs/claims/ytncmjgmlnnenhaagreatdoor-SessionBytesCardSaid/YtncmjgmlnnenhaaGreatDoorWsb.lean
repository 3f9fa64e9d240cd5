/- Walks, printed by program: each theorem says what a function of the translation returns. -/
import Derived.Test.YtncmjgmlnnenhaaGreatDoorWwire
import Derived.Test.YtncmjgmlnnenhaaGreatDoorWref22
import Derived.Test.YtncmjgmlnnenhaaGreatDoorHy
import Derived.Test.YtncmjgmlnnenhaaGreatDoorPure11
namespace Go.Proofs.YtncmjgmlnnenhaaGreatDoor
open Go Go.Lx Go.RowKit
set_option maxRecDepth 100000
set_option linter.unusedVariables false
set_option linter.unusedSimpArgs false
set_option linter.unnecessarySimpa false
theorem rsBeq3 (s t : SE) : (s.rs == t.rs) = ((s.n == t.n) && ((s.u == t.u) && (s.x == t.x))) := by
  rw [Bool.eq_iff_iff]
  simp only [Bool.and_eq_true, beq_iff_eq, SE.rs, RS.mk.injEq]
theorem r2same_ok (v0 v1 : Value) (A C : Nat → Prop) (x y : List UInt8) (w : World) (hx : Rd encB 1 A w v0 x) (hy : Rd encB 1 C w v1 y) : Ok Tryz.prog 17 #[v0, v1] w fun v w' => v = .bool (x == y) ∧ Ext False w w' := by
  obtain ⟨a, c, rfl, hx⟩ := hx
  obtain ⟨b, d, rfl, hy⟩ := hy
  refine Ok_of_W 10 Tryz.func17 rfl rfl rfl ?_
  have hX : Ext False w w := Bel.refl _ _
  refine W_seq (W_region ?_)
  refine Rg_run rfl o_assignc ?_
  refine Rg_nil (W_seq (W_region ?_))
  refine Rg_run rfl (o_moveh (v := .slice _ _ _) rfl) ?_
  refine Rg_run rfl (o_bs Tryz.underlying30 Tryz.underlying5 Tryz.underlying9 rfl hx) ?_
  refine Rg_run rfl (o_moveh (v := .slice _ _ _) rfl) ?_
  refine Rg_run rfl (o_bs Tryz.underlying30 Tryz.underlying5 Tryz.underlying9 rfl hy) ?_
  refine Rg_run rfl (o_seql rfl rfl) ?_
  refine Rg_run rfl (o_assignh (v := .bool _) rfl) ?_
  refine Rg_nil (W_ret ?_)
  refine ⟨_, res_tmp rfl rfl, ?_⟩
  refine ⟨congrArg Value.bool ?_, hX⟩
  all_goals (rfl)

theorem seq1_ok (s t : SE) (A C : Nat → Prop) (w : World) (hs : Sl encU 1 A w s.a s.c (wl s.x)) (ht : Sl encU 1 C w t.a t.c (wl t.x)) : Ok Tryz.prog 51 #[.agg (encSe s).toArray, .agg (encSe t).toArray] w fun v w' => v = .bool (s.rs == t.rs) ∧ Ext False w w' := by
  replace hs := hs.mono (F' := fun g => A g ∧ g < w.heap.size) (fun g h1 h2 => ⟨h2, h1⟩)
  replace ht := ht.mono (F' := fun g => C g ∧ g < w.heap.size) (fun g h1 h2 => ⟨h2, h1⟩)
  refine Ok_of_W 24 Tryz.func51 rfl rfl rfl ?_
  have hX : Ext False w w := Bel.refl _ _
  refine W_seq (W_region ?_)
  refine Rg_newB rfl (o_box (v := .agg _) rfl) ?_
  intro b2 w1 x2 hge2 hb2
  change Box _ _ _ (encSe _) at hb2
  replace hX := Bel.ex hX x2
  replace hs := hs.ext x2
  replace ht := ht.ext x2
  refine Rg_newB rfl (o_box (v := .agg _) rfl) ?_
  intro b3 w3 x4 hge3 hb3
  change Box _ _ _ (encSe _) at hb3
  replace hX := Bel.ex hX x4
  replace hs := hs.ext x4
  replace ht := ht.ext x4
  replace hb2 := hb2.ext x4
  refine Rg_run rfl o_assignc ?_
  refine Rg_nil (W_seq (W_region ?_))
  refine Rg_run rfl (o_fa Tryz.underlying38 rfl Tryz.sizeOf3 rfl) ?_
  refine Rg_run rfl (o_load1 Tryz.isAgg3 rfl (hb2.at.get 0 rfl)) ?_
  refine Rg_run rfl (o_fa Tryz.underlying38 rfl Tryz.sizeOf3 rfl) ?_
  refine Rg_run rfl (o_load1 Tryz.isAgg3 rfl (hb3.at.get 0 rfl)) ?_
  refine Rg_run rfl (o_eql rfl rfl) ?_
  refine (Decidable.em ((s.n == t.n) = true)).elim (fun hf1 => ?_) (fun hf1 => ?_)
  · skip
    refine Rg_run rfl (o_moveh (v := .bool _) rfl) ?_
    refine Rg_may 5 10 rfl rfl rfl (fun hg => (o_fa Tryz.underlying38 rfl Tryz.sizeOf3 rfl)) ?_
    refine Rg_may 5 10 rfl rfl rfl (fun hg => (o_load1 Tryz.isAgg3 (gsel (u := undef) hg) (hb2.at.get 1 rfl))) ?_
    refine Rg_may 5 10 rfl rfl rfl (fun hg => (o_fa Tryz.underlying38 rfl Tryz.sizeOf3 rfl)) ?_
    refine Rg_may 5 10 rfl rfl rfl (fun hg => (o_load1 Tryz.isAgg3 (gsel (u := undef) hg) (hb3.at.get 1 rfl))) ?_
    refine Rg_may 5 10 rfl rfl rfl (fun hg => (o_eql (gsel (u := undef) hg) (gsel (u := undef) hg))) ?_
    refine Rg_run rfl (o_and (u := undef) rfl rfl) ?_
    refine (Decidable.em ((s.u == t.u) = true)).elim (fun hf2 => ?_) (fun hf2 => ?_)
    · skip
      refine Rg_run rfl (o_moveh (v := .bool _) rfl) ?_
      refine Rg_may 12 17 rfl rfl rfl (fun hg => (o_fa Tryz.underlying38 rfl Tryz.sizeOf36 rfl)) ?_
      refine Rg_may 12 17 rfl rfl rfl (fun hg => (o_loadS Tryz.isAgg36 Tryz.sizeOf36 (gsel (u := undef) hg) (hb2.at.sub 2 1) rfl)) ?_
      refine Rg_may 12 17 rfl rfl rfl (fun hg => (o_fa Tryz.underlying38 rfl Tryz.sizeOf36 rfl)) ?_
      refine Rg_may 12 17 rfl rfl rfl (fun hg => (o_loadS Tryz.isAgg36 Tryz.sizeOf36 (gsel (u := undef) hg) (hb3.at.sub 2 1) rfl)) ?_
      refine Rg_mayCall 12 17 rfl rfl rfl (fun hg => ⟨(o_call2 Tryz.call34 (gsel (u := undef) hg) (gsel (u := undef) hg)), beq_ok _ ⟨s.a, s.c, s.x⟩ _ hs ⟨t.a, t.c, t.x⟩ _ ht⟩) ?_
      intro w5 x6
      replace hX := Bel.ex hX x6
      replace hs := hs.ext x6
      replace ht := ht.ext x6
      replace hb2 := hb2.ext x6
      replace hb3 := hb3.ext x6
      refine Rg_run rfl (o_and (u := undef) rfl rfl) ?_
      refine Rg_run rfl (o_assignh (v := .bool _) rfl) ?_
      refine Rg_nil (W_ret ?_)
      refine ⟨_, res_tmp rfl rfl, ?_⟩
      refine ⟨congrArg Value.bool ?_, hX⟩
      all_goals (first | (rw [rsBeq3, hf1, hf2]; rfl) | (rw [rsBeq3]; simp only [Bool.not_eq_true] at hf2; rw [hf1, hf2]; rfl) | (rw [rsBeq3]; simp only [Bool.not_eq_true] at hf1; rw [hf1]; rfl))
    refine Rg_run rfl (o_moveh (v := .bool _) rfl) ?_
    refine Rg_may 12 17 rfl rfl rfl (fun hg => (o_fa Tryz.underlying38 rfl Tryz.sizeOf36 rfl)) ?_
    refine Rg_may 12 17 rfl rfl rfl (fun hg => (o_loadS Tryz.isAgg36 Tryz.sizeOf36 (gsel (u := undef) hg) (hb2.at.sub 2 1) rfl)) ?_
    refine Rg_may 12 17 rfl rfl rfl (fun hg => (o_fa Tryz.underlying38 rfl Tryz.sizeOf36 rfl)) ?_
    refine Rg_may 12 17 rfl rfl rfl (fun hg => (o_loadS Tryz.isAgg36 Tryz.sizeOf36 (gsel (u := undef) hg) (hb3.at.sub 2 1) rfl)) ?_
    refine Rg_mayCall 12 17 rfl rfl rfl (fun hg => ⟨(o_call2 Tryz.call34 (gsel (u := undef) hg) (gsel (u := undef) hg)), beq_ok _ ⟨s.a, s.c, s.x⟩ _ hs ⟨t.a, t.c, t.x⟩ _ ht⟩) ?_
    intro w7 x8
    replace hX := Bel.ex hX x8
    replace hs := hs.ext x8
    replace ht := ht.ext x8
    replace hb2 := hb2.ext x8
    replace hb3 := hb3.ext x8
    refine Rg_run rfl (o_and (u := undef) rfl rfl) ?_
    refine Rg_run rfl (o_assignh (v := .bool _) rfl) ?_
    refine Rg_nil (W_ret ?_)
    refine ⟨_, res_tmp rfl rfl, ?_⟩
    refine ⟨congrArg Value.bool ?_, hX⟩
    all_goals (first | (rw [rsBeq3, hf1, hf2]; rfl) | (rw [rsBeq3]; simp only [Bool.not_eq_true] at hf2; rw [hf1, hf2]; rfl) | (rw [rsBeq3]; simp only [Bool.not_eq_true] at hf1; rw [hf1]; rfl))
  refine Rg_run rfl (o_moveh (v := .bool _) rfl) ?_
  refine Rg_may 5 10 rfl rfl rfl (fun hg => (o_fa Tryz.underlying38 rfl Tryz.sizeOf3 rfl)) ?_
  refine Rg_may 5 10 rfl rfl rfl (fun hg => (o_load1 Tryz.isAgg3 (gsel (u := undef) hg) (hb2.at.get 1 rfl))) ?_
  refine Rg_may 5 10 rfl rfl rfl (fun hg => (o_fa Tryz.underlying38 rfl Tryz.sizeOf3 rfl)) ?_
  refine Rg_may 5 10 rfl rfl rfl (fun hg => (o_load1 Tryz.isAgg3 (gsel (u := undef) hg) (hb3.at.get 1 rfl))) ?_
  refine Rg_may 5 10 rfl rfl rfl (fun hg => (o_eql (gsel (u := undef) hg) (gsel (u := undef) hg))) ?_
  refine Rg_run rfl (o_and (u := undef) rfl rfl) ?_
  refine Rg_run rfl (o_moveh (v := .bool _) rfl) ?_
  refine Rg_may 12 17 rfl rfl rfl (fun hg => (o_fa Tryz.underlying38 rfl Tryz.sizeOf36 rfl)) ?_
  refine Rg_may 12 17 rfl rfl rfl (fun hg => (o_loadS Tryz.isAgg36 Tryz.sizeOf36 (gsel (u := undef) hg) (hb2.at.sub 2 1) rfl)) ?_
  refine Rg_may 12 17 rfl rfl rfl (fun hg => (o_fa Tryz.underlying38 rfl Tryz.sizeOf36 rfl)) ?_
  refine Rg_may 12 17 rfl rfl rfl (fun hg => (o_loadS Tryz.isAgg36 Tryz.sizeOf36 (gsel (u := undef) hg) (hb3.at.sub 2 1) rfl)) ?_
  refine Rg_mayCall 12 17 rfl rfl rfl (fun hg => ⟨(o_call2 Tryz.call34 (gsel (u := undef) hg) (gsel (u := undef) hg)), beq_ok _ ⟨s.a, s.c, s.x⟩ _ hs ⟨t.a, t.c, t.x⟩ _ ht⟩) ?_
  intro w9 x10
  replace hX := Bel.ex hX x10
  replace hs := hs.ext x10
  replace ht := ht.ext x10
  replace hb2 := hb2.ext x10
  replace hb3 := hb3.ext x10
  refine Rg_run rfl (o_and (u := undef) rfl rfl) ?_
  refine Rg_run rfl (o_assignh (v := .bool _) rfl) ?_
  refine Rg_nil (W_ret ?_)
  refine ⟨_, res_tmp rfl rfl, ?_⟩
  refine ⟨congrArg Value.bool ?_, hX⟩
  all_goals (first | (rw [rsBeq3, hf1, hf2]; rfl) | (rw [rsBeq3]; simp only [Bool.not_eq_true] at hf2; rw [hf1, hf2]; rfl) | (rw [rsBeq3]; simp only [Bool.not_eq_true] at hf1; rw [hf1]; rfl))

theorem seqf_ok (a b : Option Addr) (c d : Nat) (A C A2 C2 : Nat → Prop) (x y : List SE) (w : World) (hx : Sl encSe 3 A w a c x) (hy : Sl encSe 3 C w b d y) (hsx : SesAt A2 w x) (hsy : SesAt C2 w y) : Ok Tryz.prog 50 #[.slice a x.length c, .slice b y.length d, .func (.func 51) #[] #[]] w fun v w' => v = .bool (x.map SE.rs == y.map SE.rs) ∧ Ext False w w' := by
  have hlx := hx.len; have hly := hy.len
  replace hx := hx.mono (F' := fun g => g < w.heap.size) (fun g h1 h2 => h1)
  replace hy := hy.mono (F' := fun g => g < w.heap.size) (fun g h1 h2 => h1)
  replace hsx := hsx.mono (F' := fun g => g < w.heap.size) (fun g h1 h2 => h1)
  replace hsy := hsy.mono (F' := fun g => g < w.heap.size) (fun g h1 h2 => h1)
  refine Ok_of_W 32 Tryz.func50 rfl rfl rfl ?_
  have hX : Ext False w w := Bel.refl _ _
  refine W_seq (W_region ?_)
  refine Rg_run rfl o_assignc ?_
  refine Rg_nil (W_seq (W_seq (W_region ?_)))
  refine Rg_run rfl (o_moveh (v := .slice _ _ _) rfl) ?_
  refine Rg_run rfl (o_llen Tryz.underlying32 rfl) ?_
  refine Rg_run rfl (o_moveh (v := .slice _ _ _) rfl) ?_
  refine Rg_run rfl (o_llen Tryz.underlying32 rfl) ?_
  refine Rg_run rfl (o_neq rfl rfl) ?_
  refine Rg_nil ?_
  refine W_cond rfl (fun hc1 => ?_) (fun hc1 => ?_)
  · skip
    skip
    refine W_seq (W_region ?_)
    refine Rg_run rfl o_assignc ?_
    refine Rg_nil (W_ret ?_)
    refine ⟨_, res_tmp rfl rfl, ?_⟩
    refine ⟨congrArg Value.bool ?_, hX⟩
    all_goals (exact (eqT_len (by simpa using hc1)).symm)
  have hle : (x.length : Int) = y.length := by simpa using hc1
  refine W_skip (W_seq (W_seq (W_region ?_)))
  refine Rg_run rfl (o_moveh (v := .slice _ _ _) rfl) ?_
  refine Rg_run rfl (o_llen Tryz.underlying32 rfl) ?_
  refine Rg_run rfl o_movec ?_
  refine Rg_nil (W_block ?_)
  refine W_for (α := Nat) [(6, 9), (17, 31)] (fun k => [(17, .int .i64 (k : Int))]) (fun k w' => (k ≤ x.length ∧ (x.map SE.rs).take k = (y.map SE.rs).take k) ∧ Ext False w w') (fun k => x.length - k) 0 ⟨rfl, trivial⟩ ⟨⟨by omega, by simp⟩, Bel.refl _ _⟩ ?_
  rintro k fb3 w2 ⟨⟨hk, hall⟩, hXL1⟩
  have z4 := Bel.size hXL1
  replace hX := Bel.ex hX hXL1
  replace hx := hx.ext hXL1
  replace hy := hy.ext hXL1
  replace hsx := hsx.ext hXL1
  replace hsy := hsy.ext hXL1
  refine W_seq (W_region ?_)
  refine Rg_run rfl (o_lss rfl rfl) ?_
  refine Rg_nil (W_seq ?_)
  refine W_cond rfl (fun hc2 => ?_) (fun hc2 => ?_)
  · skip
    replace hc2 := of_decide_eq_true hc2
    refine W_skip (W_seq (W_block (W_seq (W_region ?_))))
    refine Rg_run rfl (o_moveh (v := .int _ _) rfl) ?_
    refine Rg_run rfl (o_iaR Tryz.underlying32 Tryz.sizeOf38 hx rfl rfl (by first | omega | (unfold I64; omega) | (simp; done) | (simp; omega) | (simp at *; omega))) ?_
    refine Rg_run rfl (o_ldRS Tryz.isAgg38 Tryz.sizeOf38 hx rfl (getE sez (by omega))) ?_
    refine Rg_newB rfl (o_alloc Tryz.zeroValue38) ?_
    intro b8 w5 x6 hge8 hb8
    have hlt8 := hb8.lt
    change Box _ _ _ ([.int _ _, .int _ _, .slice _ _ _]) at hb8
    have z7 := Bel.size x6
    replace hX := Bel.ex hX x6
    replace hXL1 := Bel.ex hXL1 x6
    replace hx := hx.ext x6
    replace hy := hy.ext x6
    replace hsx := hsx.ext x6
    replace hsy := hsy.ext x6
    refine Rg_run rfl (o_assignh (v := .int _ _) rfl) ?_
    refine Rg_storeW (v := .agg _) rfl Tryz.sizeOf38 rfl rfl hb8 rfl rfl rfl ?_
    intro w8 c9 hb8
    change Box _ _ _ (encSe _) at hb8
    have z10 := Bel.size c9
    replace hX := Bel.out hX c9 (fun g h1 h2 => by first | exact h2 | omega)
    replace hXL1 := Bel.out hXL1 c9 (fun g h1 h2 => by first | exact h2 | omega)
    replace hx := hx.keep c9 (fun g h1 h2 h3 => by omega)
    replace hy := hy.keep c9 (fun g h1 h2 h3 => by omega)
    replace hsx := hsx.keep c9 (fun g h1 h2 h3 => by omega)
    replace hsy := hsy.keep c9 (fun g h1 h2 h3 => by omega)
    refine Rg_nil (W_seq (W_region ?_))
    refine Rg_run rfl (o_moveh (v := .slice _ _ _) rfl) ?_
    refine Rg_run rfl (o_moveh (v := .int _ _) rfl) ?_
    refine Rg_run rfl (o_iaR Tryz.underlying32 Tryz.sizeOf38 hy rfl rfl (by first | omega | (unfold I64; omega) | (simp; done) | (simp; omega) | (simp at *; omega))) ?_
    refine Rg_run rfl (o_ldRS Tryz.isAgg38 Tryz.sizeOf38 hy rfl (getE sez (by omega))) ?_
    refine Rg_alst rfl rfl Tryz.zeroValue38 rfl Tryz.sizeOf38 (fun _ => rfl) rfl rfl ?_
    intro b9 w11 x12 hge9 hb9
    have hlt9 := hb9.lt
    change Box _ _ _ (encSe _) at hb9
    have z13 := Bel.size x12
    replace hX := Bel.ex hX x12
    replace hXL1 := Bel.ex hXL1 x12
    replace hx := hx.ext x12
    replace hy := hy.ext x12
    replace hsx := hsx.ext x12
    replace hsy := hsy.ext x12
    replace hb8 := hb8.ext x12
    refine Rg_nil (W_seq (W_region ?_))
    refine Rg_run rfl (o_moveh (v := .func _ _ _) rfl) ?_
    refine Rg_run rfl (o_loadS Tryz.isAgg38 Tryz.sizeOf38 rfl hb8.at rfl) ?_
    refine Rg_run rfl (o_loadS Tryz.isAgg38 Tryz.sizeOf38 rfl hb9.at rfl) ?_
    refine Rg_enter rfl (o_clo2 Tryz.call51 rfl rfl rfl) (Ok.mono (seq1_ok (x.getD k sez) (y.getD k sez) _ _ _ (hsx _ (gm (z := sez) (show k < x.length by omega))) (hsy _ (gm (z := sez) (show k < y.length by omega)))) ?_)
    rintro _ w14 ⟨rfl, x15⟩
    have z16 := Bel.size x15
    replace hX := Bel.ex hX x15
    replace hXL1 := Bel.ex hXL1 x15
    replace hx := hx.ext x15
    replace hy := hy.ext x15
    replace hsx := hsx.ext x15
    replace hsy := hsy.ext x15
    replace hb8 := hb8.ext x15
    replace hb9 := hb9.ext x15
    refine Rg_run rfl (o_not rfl) ?_
    refine Rg_nil ?_
    refine W_cond rfl (fun hc3 => ?_) (fun hc3 => ?_)
    · skip
      refine W_seq (W_region ?_)
      refine Rg_run rfl o_assignc ?_
      refine Rg_nil (W_ret ?_)
      refine ⟨_, res_tmp rfl rfl, ?_⟩
      refine ⟨congrArg Value.bool ?_, hX⟩
      all_goals (exact (eqT_ne (z := rz) (k := k) (by rw [rs_get, rs_get]; simpa using hc3)).symm)
    refine W_skip (W_region ?_)
    refine Rg_run rfl (o_add rfl rfl (by first | omega | (unfold I64; omega) | (simp; done) | (simp; omega) | (simp at *; omega))) ?_
    refine Rg_run rfl (o_moveh (v := .int _ _) rfl) ?_
    refine Rg_nil ?_
    refine ⟨k + 1, ⟨?_, trivial⟩, ?_, ⟨?_, hXL1⟩, ?_⟩
    · first | rfl | (go_num) | (exact congrArg _ (by omega))
    · repeat (first | exact off_refl _ _ | exact off_mix | refine off_put rfl ?_ | refine off_putN ?_ | refine off_setL rfl ?_ | refine off_mix' rfl ?_)
    · exact ⟨by omega, eqT_succ (z := rz) (by simp; omega) (by simp; omega) hall (by rw [rs_get, rs_get]; simpa using hc3)⟩
    · omega
  replace hc2 := of_decide_eq_false hc2
  refine W_exit (exAt_hit (W_seq (W_region ?_)))
  refine Rg_run rfl o_assignc ?_
  refine Rg_nil (W_ret ?_)
  refine ⟨_, res_tmp rfl rfl, ?_⟩
  refine ⟨congrArg Value.bool ?_, hX⟩
  all_goals (exact (eqT_end (k := k) (by simp; omega) (by simp; omega) hall).symm)

theorem seqB_ok (v0 v1 : Value) (m n : List RS) (w : World) (h0 : BkIs w v0 m) (h1 : BkIs w v1 n) : Ok Tryz.prog 16 #[v0, v1] w fun v w' => v = .bool (m == n) ∧ Ext False w w' := by
  obtain ⟨pb, b, rfl, hb, rfl⟩ := h0
  obtain ⟨pd, e, rfl, hd, rfl⟩ := h1
  have hba := hb.at'
  have hda := hd.at'
  have hbl := hba.lt
  have hdl := hda.lt
  refine Ok_of_W 26 Tryz.func16 rfl rfl rfl ?_
  have hX : Ext False w w := Bel.refl _ _
  refine W_seq (W_region ?_)
  refine Rg_run rfl o_assignc ?_
  refine Rg_nil (W_seq (W_seq (W_region ?_)))
  refine Rg_run rfl (o_moveh (v := .pointer _) rfl) ?_
  refine Rg_run rfl (o_peq Tryz.underlying26 rfl rfl) ?_
  refine Rg_run rfl (o_moveh (v := .bool _) rfl) ?_
  refine Rg_on 2 7 rfl rfl ?_
  refine Rg_run rfl (o_moveh (v := .pointer _) rfl) ?_
  refine Rg_on 2 7 rfl rfl ?_
  refine Rg_run rfl (o_peq Tryz.underlying26 rfl rfl) ?_
  refine Rg_run rfl (o_pickF (v := .bool _) rfl rfl) ?_
  refine Rg_nil ?_
  refine W_cond_false rfl ?_
  refine W_skip (W_seq ?_)
  apply W_draw (β := False) [peq _, peq _, peq _, peq _, peq _, peq _, peq _, peq _, peq _, peq _] 10 mixed (by kernel_rfl) rfl ⟨peq_stable _, peq_stable _, peq_stable _, peq_stable _, peq_stable _, peq_stable _, peq_stable _, peq_stable _, peq_stable _, peq_stable _, trivial⟩ ?ob3 ?fin3
  case ob3 =>
    refine OblL_cons (fun w1 x2 => ?_) ?_
    · skip
      refine bindP_nil ?_
      exact OpS_v rfl (o_moveh (v := .pointer _) rfl)
    refine OblL_cons (fun w3 x4 => ?_) ?_
    · skip
      refine bindP_eq (bindP_nil ?_)
      exact OpS_v rfl (o_nilc rfl)
    refine OblL_cons (fun w5 x6 => ?_) ?_
    · skip
      refine bindP_eq (bindP_nil ?_)
      exact OpS_v rfl (o_fa Tryz.underlying91 rfl Tryz.sizeOf32 rfl)
    refine OblL_cons (fun w7 x8 => ?_) ?_
    · skip
      have hba := hba.ext x8
      refine bindP_eq (bindP_nil ?_)
      exact OpS_v rfl (o_load1 Tryz.isAgg32 rfl (hba.get 0 rfl))
    refine OblL_cons (fun w9 x10 => ?_) ?_
    · skip
      refine bindP_nil ?_
      exact OpS_v rfl (o_moveh (v := .pointer _) rfl)
    refine OblL_cons (fun w11 x12 => ?_) ?_
    · skip
      refine bindP_eq (bindP_nil ?_)
      exact OpS_v rfl (o_nilc rfl)
    refine OblL_cons (fun w13 x14 => ?_) ?_
    · skip
      refine bindP_eq (bindP_nil ?_)
      exact OpS_v rfl (o_fa Tryz.underlying91 rfl Tryz.sizeOf32 rfl)
    refine OblL_cons (fun w15 x16 => ?_) ?_
    · skip
      have hda := hda.ext x16
      refine bindP_eq (bindP_nil ?_)
      exact OpS_v rfl (o_load1 Tryz.isAgg32 rfl (hda.get 0 rfl))
    refine OblL_cons (fun w17 x18 => ?_) ?_
    · skip
      have hb := hb.ext x18
      have hd := hd.ext x18
      refine bindP_eq (bindP_eq (bindP_nil ?_))
      exact OpS_call rfl (o_call3 Tryz.call50 rfl rfl rfl) (seqf_ok _ _ _ _ _ _ _ _ _ _ _ hb.sl hd.sl hb.ws hd.ws)
    refine OblL_cons (fun w19 x20 => ?_) ?_
    · skip
      refine bindP_eq (bindP_eq (bindP_eq (bindP_eq (bindP_eq (bindP_eq (bindP_eq (bindP_eq (bindP_eq ?_))))))))
      refine bindP_eq (bindP_eq (bindP_nil ?_))
      exact OpS_v rfl (o_assignh (v := .bool _) rfl)
    exact OblL_nil
  case fin3 =>
    intro w21 x22
    replace hX := Bel.ex hX x22
    replace hb := hb.ext x22
    replace hba := hba.ext x22
    replace hd := hd.ext x22
    replace hda := hda.ext x22
    refine bindP_eq (bindP_eq (bindP_eq (bindP_eq (bindP_eq (bindP_eq (bindP_eq (bindP_eq (bindP_eq ?_))))))))
    refine bindP_eq (bindP_nil (Rg_nil (W_ret ?_)))
    refine ⟨_, res_tmp rfl rfl, ?_⟩
    refine ⟨congrArg Value.bool ?_, hX⟩
    all_goals (rfl)

theorem sbytes_ok (v0 : Value) (m : List RS) (w : World) (hb0 : BkIs w v0 m) (hm : OkM m) : Ok Tryz.prog 9 #[v0] w fun v w' => Own encB 1 5 (Fsh w w') w' v (bytesM m) ∧ Ext False w w' := by
  obtain ⟨pb, b, rfl, hb, rfl⟩ := hb0
  have hba := hb.at'
  have hbl := hb.lt
  have hml := b.mlen
  have hlen : b.l.length ≤ 64 := by have := hm.len; omega
  have hbk := fun k => bytesK_len (m := b.m) k (by omega)
  refine Ok_of_W 43 Tryz.func9 rfl rfl rfl ?_
  have hX : Ext False w w := Bel.refl _ _
  refine W_seq (W_region ?_)
  refine Rg_run rfl o_assignc ?_
  refine Rg_nil (W_seq (W_seq (W_region ?_)))
  refine Rg_run rfl (o_moveh (v := .pointer _) rfl) ?_
  refine Rg_run rfl (o_peq Tryz.underlying26 rfl rfl) ?_
  refine Rg_nil ?_
  refine W_cond_false rfl ?_
  refine W_skip (W_seq (W_region ?_))
  refine Rg_enter rfl (o_call0 Tryz.call37) (Ok.mono (wnew_ok _) ?_)
  rintro v8 w1 ⟨hownw, x2⟩
  have z3 := Bel.size x2
  replace hX := Bel.ex hX x2
  replace hb := hb.ext x2
  replace hba := hba.ext x2
  replace hownw := hownw.mono (D' := fun g => w.heap.size ≤ g) (fun g h1 h2 => by omega)
  refine Rg_run rfl (o_assignh (v := v8) rfl) ?_
  refine Rg_nil (W_seq (W_region ?_))
  refine Rg_run rfl (o_moveh (v := v8) rfl) ?_
  refine Rg_run rfl (o_moveh (v := .pointer _) rfl) ?_
  refine Rg_run rfl (o_nilc rfl) ?_
  refine Rg_run rfl (o_fa Tryz.underlying91 rfl Tryz.sizeOf32 rfl) ?_
  refine Rg_run rfl (o_load1 Tryz.isAgg32 rfl (hba.get 0 rfl)) ?_
  refine Rg_run rfl (o_llen Tryz.underlying32 rfl) ?_
  refine Rg_run rfl (o_convV (n := b.l.length) Tryz.underlying3 Tryz.underlying50 rfl (by omega)) ?_
  refine Rg_enter rfl (o_call2 Tryz.call38 rfl rfl) (Ok.mono (wuint_ok v8 _ _ (BitVec.ofNat 64 b.l.length) _ hownw (fun g h => by omega) (by simp)) ?_)
  rintro _ w4 ⟨rfl, hownw, x5⟩
  have z6 := Bel.size x5
  replace hX := Bel.out hX x5 (fun g h1 h2 => by first | exact h2 | omega)
  replace hb := hb.keep x5 (fun g h1 h2 h3 => by omega)
  replace hba := hba.keep x5 (fun h => by omega)
  refine Rg_nil (W_seq (W_seq (W_region ?_)))
  refine Rg_run rfl (o_moveh (v := .pointer _) rfl) ?_
  refine Rg_run rfl (o_nilc rfl) ?_
  refine Rg_run rfl (o_fa Tryz.underlying91 rfl Tryz.sizeOf32 rfl) ?_
  refine Rg_run rfl (o_load1 Tryz.isAgg32 rfl (hba.get 0 rfl)) ?_
  refine Rg_run rfl (o_llen Tryz.underlying32 rfl) ?_
  refine Rg_run rfl o_movec ?_
  refine Rg_nil (W_block ?_)
  refine W_for (α := Nat) [(5, 5), (22, 40)] (fun k => [(22, .int .i64 (k : Int))]) (fun k w' => (k ≤ b.l.length) ∧ Bel False (fun g => w.heap.size ≤ g) w4 w' ∧ (Wr 155 5 (fun g => w.heap.size ≤ g) w' v8 (bytesK b.m k))) (fun k => b.l.length - k) 0 ⟨rfl, trivial⟩ ⟨Nat.zero_le _, Bel.refl _ _, (by rw [bytesK_zero, hml]; simpa using hownw)⟩ ?_
  rintro k fb9 w8 ⟨hk, hXL7, hownw⟩
  have z10 := Bel.size hXL7
  replace hX := Bel.out hX hXL7 (fun g h1 h2 => by first | exact h2 | omega)
  replace hb := hb.keep hXL7 (fun g h1 h2 h3 => by omega)
  refine W_seq (W_region ?_)
  skip
  refine Rg_run rfl (o_lss rfl rfl) ?_
  refine Rg_nil (W_seq ?_)
  refine W_cond rfl (fun hc2 => ?_) (fun hc2 => ?_)
  · skip
    replace hc2 := of_decide_eq_true hc2
    refine W_skip (W_seq (W_block (W_seq (W_region ?_))))
    have hsn := hm.rng _ (gm (z := rz) (show k < b.m.length by omega))
    have hsu := hm.usr _ (gm (z := rz) (show k < b.m.length by omega))
    have hbk1 := hbk k; have hbk2 := hbk (k + 1)
    rw [BV.mget] at hsn hsu
    change 1 ≤ (b.l.getD k sez).n ∧ (b.l.getD k sez).n ≤ 64 at hsn
    change 1 ≤ (b.l.getD k sez).u ∧ (b.l.getD k sez).u ≤ 256 at hsu
    have hp1 := putU_len (BitVec.ofNat 64 (b.l.getD k sez).n.toNat); have hp2 := putU_len (BitVec.ofNat 64 (b.l.getD k sez).u.toNat)
    refine Rg_run rfl (o_iaR Tryz.underlying32 Tryz.sizeOf38 hb.sl rfl rfl (by first | omega | (unfold I64; omega) | (simp; done) | (simp; omega) | (simp at *; omega))) ?_
    refine Rg_run rfl (o_ldRS Tryz.isAgg38 Tryz.sizeOf38 hb.sl rfl (getE sez (by omega))) ?_
    refine Rg_alst rfl rfl Tryz.zeroValue38 rfl Tryz.sizeOf38 (fun _ => rfl) rfl rfl ?_
    intro b5 w11 x12 hge5 hb5
    replace hownw := hownw.mono (D' := fun g => w.heap.size ≤ g ∧ g ≠ b5) (fun g h1 h2 => by omega)
    have hlt5 := hb5.lt
    change Box _ _ _ (encSe _) at hb5
    have z13 := Bel.size x12
    replace hX := Bel.ex hX x12
    replace hXL7 := Bel.ex hXL7 x12
    replace hb := hb.ext x12
    replace hownw := hownw.ext x12
    refine Rg_nil (W_seq (W_region ?_))
    refine Rg_run rfl (o_moveh (v := v8) rfl) ?_
    refine Rg_run rfl (o_fa Tryz.underlying38 rfl Tryz.sizeOf3 rfl) ?_
    refine Rg_run rfl (o_load1 Tryz.isAgg3 rfl (hb5.at.get 0 rfl)) ?_
    refine Rg_run rfl (o_convI Tryz.underlying3 Tryz.underlying50 rfl (by omega) (by omega)) ?_
    refine Rg_enter rfl (o_call2 Tryz.call38 rfl rfl) (Ok.mono (wuint_ok v8 _ _ (BitVec.ofNat 64 (b.l.getD k sez).n.toNat) _ hownw (fun g h => by omega) (by omega)) ?_)
    rintro _ w14 ⟨rfl, hownw, x15⟩
    have z16 := Bel.size x15
    replace hX := Bel.out hX x15 (fun g h1 h2 => by first | exact h2 | omega)
    replace hXL7 := Bel.out hXL7 x15 (fun g h1 h2 => by first | exact h2 | omega)
    replace hb := hb.keep x15 (fun g h1 h2 h3 => by omega)
    replace hb5 := hb5.keep x15 (fun h => by omega)
    refine Rg_nil (W_seq (W_region ?_))
    refine Rg_run rfl (o_moveh (v := v8) rfl) ?_
    refine Rg_run rfl (o_fa Tryz.underlying38 rfl Tryz.sizeOf3 rfl) ?_
    refine Rg_run rfl (o_load1 Tryz.isAgg3 rfl (hb5.at.get 1 rfl)) ?_
    refine Rg_run rfl (o_convI Tryz.underlying3 Tryz.underlying50 rfl (by omega) (by omega)) ?_
    refine Rg_enter rfl (o_call2 Tryz.call38 rfl rfl) (Ok.mono (wuint_ok v8 _ _ (BitVec.ofNat 64 (b.l.getD k sez).u.toNat) _ hownw (fun g h => by omega) (by rw [List.length_append]; omega)) ?_)
    rintro _ w17 ⟨rfl, hownw, x18⟩
    have z19 := Bel.size x18
    replace hX := Bel.out hX x18 (fun g h1 h2 => by first | exact h2 | omega)
    replace hXL7 := Bel.out hXL7 x18 (fun g h1 h2 => by first | exact h2 | omega)
    replace hb := hb.keep x18 (fun g h1 h2 h3 => by omega)
    replace hb5 := hb5.keep x18 (fun h => by omega)
    refine Rg_nil (W_region ?_)
    refine Rg_run rfl (o_moveh (v := v8) rfl) ?_
    refine Rg_run rfl (o_fa Tryz.underlying38 rfl Tryz.sizeOf36 rfl) ?_
    refine Rg_run rfl (o_loadS Tryz.isAgg36 Tryz.sizeOf36 rfl (hb5.at.sub 2 1) rfl) ?_
    refine Rg_enter rfl (o_call2 Tryz.call39 rfl rfl) (Ok.mono (wset_ok v8 _ _ ⟨(b.l.getD k sez).a, (b.l.getD k sez).c, (b.l.getD k sez).x⟩ _ _ hownw (fun g h => by omega) (hb.ws _ (gm (z := sez) (show k < b.l.length by omega))) (by rw [List.length_append, List.length_append]; omega)) ?_)
    rintro _ w20 ⟨rfl, hownw, x21⟩
    have z22 := Bel.size x21
    replace hX := Bel.out hX x21 (fun g h1 h2 => by first | exact h2 | omega)
    replace hXL7 := Bel.out hXL7 x21 (fun g h1 h2 => by first | exact h2 | omega)
    refine Rg_nil (W_region ?_)
    refine Rg_run rfl (o_add rfl rfl (by first | omega | (unfold I64; omega) | (simp; done) | (simp; omega) | (simp at *; omega))) ?_
    refine Rg_run rfl (o_moveh (v := .int _ _) rfl) ?_
    refine Rg_nil ?_
    refine ⟨k + 1, ⟨?_, trivial⟩, ?_, ⟨?_, hXL7, ?_⟩, ?_⟩
    · first | rfl | (go_num) | (exact congrArg _ (by omega))
    · repeat (first | exact off_refl _ _ | exact off_mix | refine off_put rfl ?_ | refine off_putN ?_ | refine off_setL rfl ?_ | refine off_mix' rfl ?_)
    · show k + 1 ≤ b.l.length; omega
    · rw [bytesK_succ (by omega), BV.mget]; exact hownw.mono (fun g h1 h2 => h2.1)
    · omega
  replace hc2 := of_decide_eq_false hc2
  refine W_exit (exAt_hit (W_seq (W_region ?_)))
  refine Rg_run rfl (o_moveh (v := v8) rfl) ?_
  refine Rg_enter rfl (o_call1 Tryz.call40 rfl) (Ok.mono (wout_ok v8 _ _ _ hownw (by have := hbk k; omega)) ?_)
  rintro v42 w23 ⟨hown42, x24⟩
  have z25 := Bel.size x24
  replace hX := Bel.ex hX x24
  replace hown42 := hown42.mono (D' := fun g => w.heap.size ≤ g) (fun g h1 h2 => by omega)
  refine Rg_run rfl (o_assignh (v := v42) rfl) ?_
  refine Rg_nil (W_ret ?_)
  refine ⟨_, res_tmp rfl rfl, ?_⟩
  rw [bytesK_end (by omega)] at hown42
  exact ⟨hown42.mono (fun g h1 h2 => ⟨by omega, h1⟩), hX⟩

end Go.Proofs.YtncmjgmlnnenhaaGreatDoor
