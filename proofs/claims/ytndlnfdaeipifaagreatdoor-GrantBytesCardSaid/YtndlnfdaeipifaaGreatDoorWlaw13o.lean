/- Walks, printed by program: each theorem says what a function of the translation returns. -/
import Derived.Test.YtndlnfdaeipifaaGreatDoorWawk13
import Derived.Test.YtndlnfdaeipifaaGreatDoorWwire
import Derived.Test.YtndlnfdaeipifaaGreatDoorWread
import Derived.Test.YtndlnfdaeipifaaGreatDoorWire
namespace Go.Proofs.YtndlnfdaeipifaaGreatDoor
open Go Go.Lx Go.RowKit
set_option maxRecDepth 100000
set_option linter.unusedVariables false
set_option linter.unusedSimpArgs false
set_option linter.unnecessarySimpa false
theorem r2same_ok (v0 v1 : Value) (A C : Nat → Prop) (x y : List UInt8) (w : World) (hx : Rd encB 1 A w v0 x) (hy : Rd encB 1 C w v1 y) : Ok Tryz.prog 31 #[v0, v1] w fun v w' => v = .bool (x == y) ∧ Ext False w w' := by
  obtain ⟨a, c, rfl, hx⟩ := hx
  obtain ⟨b, d, rfl, hy⟩ := hy
  refine Ok_of_W 10 Tryz.func31 rfl rfl rfl ?_
  have hX : Ext False w w := Bel.refl _ _
  refine W_seq ?_
  refine W_region ?_
  refine Rg_run rfl o_assignc ?_
  refine Rg_nil ?_
  refine W_seq ?_
  refine W_region ?_
  refine Rg_run rfl (o_moveh (v := .slice _ _ _) rfl) ?_
  refine Rg_run rfl (o_bs Tryz.underlying49 Tryz.underlying5 Tryz.underlying9 rfl hx) ?_
  refine Rg_run rfl (o_moveh (v := .slice _ _ _) rfl) ?_
  refine Rg_run rfl (o_bs Tryz.underlying49 Tryz.underlying5 Tryz.underlying9 rfl hy) ?_
  refine Rg_run rfl (o_seql rfl rfl) ?_
  refine Rg_run rfl (o_assignh (v := .bool _) rfl) ?_
  refine Rg_nil ?_
  refine W_ret ?_
  refine ⟨_, res_tmp rfl rfl, ?_⟩
  refine ⟨congrArg Value.bool ?_, hX⟩
  all_goals (rfl)

theorem gbytes_ok (v0 : Value) (m : List Ent) (w : World) (hb0 : GbIs w v0 m) (hm : OkG m) : Ok Tryz.prog 32 #[v0] w fun v w' => Own encB 1 5 (Fsh w w') w' v (gbytes m) ∧ Ext False w w' := by
  obtain ⟨pb, ab, cb, rfl, hba, hb⟩ := hb0
  have hbl := hba.lt
  have hml := hm.len
  have hbk := fun k => gbytesK_sh hm k
  refine Ok_of_W 49 Tryz.func32 rfl rfl rfl ?_
  have hX : Ext False w w := Bel.refl _ _
  refine W_seq ?_
  refine W_region ?_
  refine Rg_run rfl o_assignc ?_
  refine Rg_nil ?_
  refine W_seq ?_
  refine W_seq ?_
  refine W_region ?_
  refine Rg_run rfl (o_moveh (v := .pointer _) rfl) ?_
  refine Rg_run rfl (o_peq Tryz.underlying25 rfl rfl) ?_
  refine Rg_nil ?_
  refine W_cond_false rfl ?_
  refine W_skip ?_
  refine W_seq ?_
  refine W_region ?_
  refine Rg_enter rfl (o_call0 Tryz.call69) (Ok.mono (wnew_ok _) ?_)
  rintro v8 w1 ⟨hownw, x2⟩
  have z3 := Bel.size x2
  replace hX := Bel.ex hX x2
  replace hb := hb.ext x2
  replace hba := hba.ext x2
  replace hownw := hownw.mono (D' := fun g => w.heap.size ≤ g) (fun g h1 h2 => by omega)
  refine Rg_run rfl (o_assignh (v := v8) rfl) ?_
  refine Rg_nil ?_
  refine W_seq ?_
  refine W_region ?_
  refine Rg_run rfl (o_moveh (v := v8) rfl) ?_
  refine Rg_run rfl (o_moveh (v := .pointer _) rfl) ?_
  refine Rg_run rfl (o_nilc rfl) ?_
  refine Rg_run rfl (o_fa Tryz.underlying102 rfl Tryz.sizeOf34 rfl) ?_
  refine Rg_run rfl (o_load1 Tryz.isAgg34 rfl (hba.get 0 rfl)) ?_
  refine Rg_run rfl (o_llen Tryz.underlying34 rfl) ?_
  refine Rg_run rfl (o_convV (n := m.length) Tryz.underlying3 Tryz.underlying23 rfl (by omega)) ?_
  refine Rg_enter rfl (o_call2 Tryz.call70 rfl rfl) (Ok.mono (wuint_ok v8 _ _ (BitVec.ofNat 64 m.length) _ hownw (fun g h => by omega) (by simp)) ?_)
  rintro _ w4 ⟨rfl, hownw, x5⟩
  have z6 := Bel.size x5
  replace hX := Bel.out hX x5 (fun g h1 h2 => by first | exact h2 | omega)
  replace hb := hb.keep x5 (fun g h1 h2 h3 => by omega)
  replace hba := hba.keep x5 (fun h => by omega)
  refine Rg_nil ?_
  refine W_seq ?_
  refine W_seq ?_
  refine W_region ?_
  refine Rg_run rfl (o_moveh (v := .pointer _) rfl) ?_
  refine Rg_run rfl (o_nilc rfl) ?_
  refine Rg_run rfl (o_fa Tryz.underlying102 rfl Tryz.sizeOf34 rfl) ?_
  refine Rg_run rfl (o_load1 Tryz.isAgg34 rfl (hba.get 0 rfl)) ?_
  refine Rg_run rfl (o_llen Tryz.underlying34 rfl) ?_
  refine Rg_run rfl o_movec ?_
  refine Rg_nil ?_
  refine W_block ?_
  refine W_for (α := Nat) [(5, 5), (22, 46)] (fun k => [(22, .int .i64 (k : Int))]) (fun k w' => (k ≤ m.length) ∧ Bel False (fun g => w.heap.size ≤ g) w4 w' ∧ (Wr 165 5 (fun g => w.heap.size ≤ g) w' v8 (gbytesK m k))) (fun k => m.length - k) 0 ⟨rfl, trivial⟩ ⟨Nat.zero_le _, Bel.refl _ _, (by rw [gbytesK_zero]; simpa using hownw)⟩ ?_
  rintro k fb9 w8 ⟨hk, hXL7, hownw⟩
  have z10 := Bel.size hXL7
  replace hX := Bel.out hX hXL7 (fun g h1 h2 => by first | exact h2 | omega)
  replace hb := hb.keep hXL7 (fun g h1 h2 h3 => by omega)
  refine W_seq ?_
  refine W_region ?_
  refine Rg_run rfl (o_lss rfl rfl) ?_
  refine Rg_nil ?_
  refine W_seq ?_
  refine W_cond rfl (fun hc2 => ?_) (fun hc2 => ?_)
  · skip
    replace hc2 := of_decide_eq_true hc2
    refine W_skip ?_
    refine W_seq ?_
    refine W_block ?_
    refine W_seq ?_
    refine W_region ?_
    have hvk := hm.ve _ (gm (z := ez) (show k < m.length by omega))
    have hbk1 := hbk k
    have hp1 := putU_len (BitVec.ofNat 64 (m.getD k ez).r.toNat); have hp2 := putB_lenG (m.getD k ez).p.act; have hp3 := putB_lenG (m.getD k ez).p.path; have hp4 := hvk.2.2.1.1; have hp5 := hvk.2.2.1.2; have hp6 := hvk.1; have hp7 := hvk.2.1
    refine Rg_run rfl (o_iaR Tryz.underlying34 Tryz.sizeOf76 hb rfl rfl (by first | omega | (unfold I64; omega) | (simp; done) | (simp; omega) | (simp at *; omega))) ?_
    refine Rg_run rfl (o_ldRS Tryz.isAgg76 Tryz.sizeOf76 hb rfl (getE ez (by omega))) ?_
    refine Rg_alst rfl rfl Tryz.zeroValue76 rfl Tryz.sizeOf76 (fun _ => rfl) rfl rfl ?_
    intro b5 w11 x12 hge5 hb5
    replace hownw := hownw.mono (D' := fun g => w.heap.size ≤ g ∧ g ≠ b5) (fun g h1 h2 => by omega)
    have hlt5 := hb5.lt
    change Box _ _ _ (encE _) at hb5
    have z13 := Bel.size x12
    replace hX := Bel.ex hX x12
    replace hXL7 := Bel.ex hXL7 x12
    replace hownw := hownw.ext x12
    refine Rg_nil ?_
    refine W_seq ?_
    refine W_region ?_
    refine Rg_run rfl (o_moveh (v := v8) rfl) ?_
    refine Rg_run rfl (o_fa Tryz.underlying76 rfl Tryz.sizeOf3 rfl) ?_
    refine Rg_run rfl (o_load1 Tryz.isAgg3 rfl (hb5.at.get 0 rfl)) ?_
    refine Rg_run rfl (o_convI Tryz.underlying3 Tryz.underlying23 rfl (by omega) (by omega)) ?_
    refine Rg_enter rfl (o_call2 Tryz.call70 rfl rfl) (Ok.mono (wuint_ok v8 _ _ (BitVec.ofNat 64 (m.getD k ez).r.toNat) _ hownw (fun g h => by omega) (by omega)) ?_)
    rintro _ w14 ⟨rfl, hownw, x15⟩
    have z16 := Bel.size x15
    replace hX := Bel.out hX x15 (fun g h1 h2 => by first | exact h2 | omega)
    replace hXL7 := Bel.out hXL7 x15 (fun g h1 h2 => by first | exact h2 | omega)
    replace hb5 := hb5.keep x15 (fun h => by omega)
    refine Rg_nil ?_
    refine W_seq ?_
    refine W_region ?_
    refine Rg_run rfl (o_moveh (v := v8) rfl) ?_
    refine Rg_run rfl (o_fa Tryz.underlying76 rfl Tryz.sizeOf52 rfl) ?_
    refine Rg_run rfl (o_fa Tryz.underlying52 rfl Tryz.sizeOf9 rfl) ?_
    refine Rg_run rfl (o_load1 Tryz.isAgg9 rfl (hb5.at.get 1 rfl)) ?_
    refine Rg_enter rfl (o_call2 Tryz.call71 rfl rfl) (Ok.mono (wstr_ok v8 _ _ (m.getD k ez).p.act _ hownw (fun g h => by omega) (by rw [List.length_append]; omega)) ?_)
    rintro _ w17 ⟨rfl, hownw, x18⟩
    have z19 := Bel.size x18
    replace hX := Bel.out hX x18 (fun g h1 h2 => by first | exact h2 | omega)
    replace hXL7 := Bel.out hXL7 x18 (fun g h1 h2 => by first | exact h2 | omega)
    replace hb5 := hb5.keep x18 (fun h => by omega)
    refine Rg_nil ?_
    refine W_seq ?_
    refine W_region ?_
    refine Rg_run rfl (o_moveh (v := v8) rfl) ?_
    refine Rg_run rfl (o_fa Tryz.underlying76 rfl Tryz.sizeOf52 rfl) ?_
    refine Rg_run rfl (o_fa Tryz.underlying52 rfl Tryz.sizeOf9 rfl) ?_
    refine Rg_run rfl (o_load1 Tryz.isAgg9 rfl (hb5.at.get 2 rfl)) ?_
    refine Rg_enter rfl (o_call2 Tryz.call71 rfl rfl) (Ok.mono (wstr_ok v8 _ _ (m.getD k ez).p.path _ hownw (fun g h => by omega) (by rw [List.length_append, List.length_append]; omega)) ?_)
    rintro _ w20 ⟨rfl, hownw, x21⟩
    have z22 := Bel.size x21
    replace hX := Bel.out hX x21 (fun g h1 h2 => by first | exact h2 | omega)
    replace hXL7 := Bel.out hXL7 x21 (fun g h1 h2 => by first | exact h2 | omega)
    replace hb5 := hb5.keep x21 (fun h => by omega)
    refine Rg_nil ?_
    refine W_region ?_
    refine Rg_run rfl (o_moveh (v := v8) rfl) ?_
    refine Rg_run rfl (o_fa Tryz.underlying76 rfl Tryz.sizeOf52 rfl) ?_
    refine Rg_run rfl (o_fa Tryz.underlying52 rfl Tryz.sizeOf4 rfl) ?_
    refine Rg_run rfl (o_load1 Tryz.isAgg4 rfl (hb5.at.get 3 rfl)) ?_
    refine Rg_enter rfl (o_call2 Tryz.call72 rfl rfl) (Ok.mono (wflag_ok v8 _ _ (m.getD k ez).p.deep _ hownw (fun g h => by omega) (by rw [List.length_append, List.length_append, List.length_append]; omega)) ?_)
    rintro _ w23 ⟨rfl, hownw, x24⟩
    have z25 := Bel.size x24
    replace hX := Bel.out hX x24 (fun g h1 h2 => by first | exact h2 | omega)
    replace hXL7 := Bel.out hXL7 x24 (fun g h1 h2 => by first | exact h2 | omega)
    refine Rg_nil ?_
    refine W_region ?_
    refine Rg_run rfl (o_add rfl rfl (by first | omega | (unfold I64; omega) | (simp; done) | (simp; omega) | (simp at *; omega))) ?_
    refine Rg_run rfl (o_moveh (v := .int _ _) rfl) ?_
    refine Rg_nil ?_
    refine ⟨k + 1, ⟨?_, trivial⟩, ?_, ⟨?_, hXL7, ?_⟩, ?_⟩
    · first | rfl | (go_num) | (exact congrArg _ (by omega))
    · repeat (first | exact off_refl _ _ | exact off_mix | refine off_put rfl ?_ | refine off_putN ?_ | refine off_setL rfl ?_ | refine off_mix' rfl ?_)
    · show k + 1 ≤ m.length; omega
    · rw [gbytesK_succ (by omega)]; exact hownw.mono (fun g h1 h2 => h2.1)
    · omega
  · skip
    replace hc2 := of_decide_eq_false hc2
    refine W_exit ?_
    refine exAt_hit ?_
    refine W_seq ?_
    refine W_region ?_
    refine Rg_run rfl (o_moveh (v := v8) rfl) ?_
    refine Rg_enter rfl (o_call1 Tryz.call73 rfl) (Ok.mono (wout_ok v8 _ _ _ hownw (by have := hbk k; omega)) ?_)
    rintro v48 w26 ⟨hown48, x27⟩
    have z28 := Bel.size x27
    replace hX := Bel.ex hX x27
    replace hown48 := hown48.mono (D' := fun g => w.heap.size ≤ g) (fun g h1 h2 => by omega)
    refine Rg_run rfl (o_assignh (v := v48) rfl) ?_
    refine Rg_nil ?_
    refine W_ret ?_
    refine ⟨_, res_tmp rfl rfl, ?_⟩
    rw [gbytesK_end (by omega)] at hown48
    exact ⟨hown48.mono (fun g h1 h2 => ⟨by omega, h1⟩), hX⟩

end Go.Proofs.YtndlnfdaeipifaaGreatDoor
