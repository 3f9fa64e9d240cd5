/- Walks, printed by program: each theorem says what a function of the translation returns. -/
import Derived.Test.YtndlnfdaeipifaaGreatDoorWlaw13o
namespace Go.Proofs.YtndlnfdaeipifaaGreatDoor
open Go Go.Lx Go.RowKit
set_option maxRecDepth 100000
set_option linter.unusedVariables false
set_option linter.unusedSimpArgs false
set_option linter.unnecessarySimpa false
theorem r13bytes_ok (v0 : Value) (G : Nat → Prop) (m : List Ent) (w : World) (hq : Rd encE 4 G w v0 m) (hm : OkG m) : Ok Tryz.prog 45 #[v0] w fun v w' => Own encB 1 5 (Fsh w w') w' v (gbytes m) ∧ Ext False w w' := by
  obtain ⟨aq, cq, rfl, hq⟩ := hq
  replace hq := hq.mono (F' := fun g => g < w.heap.size) (fun g h1 h2 => h1)
  have hml := hm.len
  have hbk := fun k => gbytesK_sh hm k
  refine Ok_of_W 44 Tryz.func45 rfl rfl rfl ?_
  have hX : Ext False w w := Bel.refl _ _
  refine W_seq ?_
  refine W_region ?_
  refine Rg_run rfl o_assignc ?_
  refine Rg_nil ?_
  refine W_seq ?_
  refine W_region ?_
  refine Rg_run rfl (o_moveh (v := .slice _ _ _) rfl) ?_
  refine Rg_run rfl (o_llen Tryz.underlying26 rfl) ?_
  refine Rg_run rfl (o_convV (n := m.length) Tryz.underlying3 Tryz.underlying23 rfl (by omega)) ?_
  refine Rg_enter rfl (o_call1 Tryz.call94 rfl) (Ok.mono (rput_ok (BitVec.ofNat 64 m.length) _) ?_)
  rintro v9 w1 ⟨hown9, x2⟩
  have z3 := Bel.size x2
  replace hX := Bel.ex hX x2
  replace hq := hq.ext x2
  replace hown9 := hown9.mono (D' := fun g => w.heap.size ≤ g) (fun g h1 h2 => by omega)
  refine Rg_run rfl (o_assignh (v := v9) rfl) ?_
  refine Rg_nil ?_
  refine W_seq ?_
  refine W_seq ?_
  refine W_region ?_
  refine Rg_run rfl (o_moveh (v := .slice _ _ _) rfl) ?_
  refine Rg_run rfl (o_llen Tryz.underlying26 rfl) ?_
  refine Rg_run rfl o_movec ?_
  refine Rg_nil ?_
  refine W_block ?_
  refine W_for (α := Nat × Value) [(3, 3), (5, 5), (12, 42)] (fun q => [(12, .int .i64 (q.1 : Int)), (3, q.2)]) (fun q w' => (q.1 ≤ m.length) ∧ Bel False (fun g => w.heap.size ≤ g) w1 w' ∧ (Own encB 1 5 (fun g => w.heap.size ≤ g) w' q.2 (gbytesK m (q.1)))) (fun q => m.length - q.1) (0, v9) ⟨rfl, rfl, trivial⟩ ⟨Nat.zero_le _, Bel.refl _ _, (by rw [gbytesK_zero]; exact hown9)⟩ ?_
  rintro ⟨k, u⟩ fb6 w5 ⟨hk, hXL4, hown⟩
  dsimp only at *
  have z7 := Bel.size hXL4
  replace hX := Bel.out hX hXL4 (fun g h1 h2 => by first | exact h2 | omega)
  replace hq := hq.keep hXL4 (fun g h1 h2 h3 => by omega)
  refine W_seq ?_
  refine W_region ?_
  refine Rg_run rfl (o_lss rfl rfl) ?_
  refine Rg_nil ?_
  refine W_seq ?_
  refine W_cond rfl (fun hc1 => ?_) (fun hc1 => ?_)
  · skip
    replace hc1 := of_decide_eq_true hc1
    refine W_skip ?_
    refine W_seq ?_
    refine W_block ?_
    refine W_seq ?_
    refine W_region ?_
    have hvk := hm.ve _ (gm (z := ez) (show k < m.length by omega))
    have hbk1 := hbk k
    have hp1 := putU_len (BitVec.ofNat 64 (m.getD k ez).r.toNat); have hp2 := putB_lenG (m.getD k ez).p.act; have hp3 := putB_lenG (m.getD k ez).p.path; have hp4 := hvk.2.2.1.1; have hp5 := hvk.2.2.1.2; have hp6 := hvk.1; have hp7 := hvk.2.1
    refine Rg_run rfl (o_iaR Tryz.underlying26 Tryz.sizeOf43 hq rfl rfl (by first | omega | (unfold I64; omega) | (simp; done) | (simp; omega) | (simp at *; omega))) ?_
    refine Rg_run rfl (o_ldRS Tryz.isAgg43 Tryz.sizeOf43 hq rfl (getE ez (by omega))) ?_
    refine Rg_alst rfl rfl Tryz.zeroValue43 rfl Tryz.sizeOf43 (fun _ => rfl) rfl rfl ?_
    intro b5 w8 x9 hge5 hb5
    replace hown := hown.mono (D' := fun g => w.heap.size ≤ g ∧ g ≠ b5) (fun g h1 h2 => by omega)
    have hlt5 := hb5.lt
    change Box _ _ _ (encE _) at hb5
    have z10 := Bel.size x9
    replace hX := Bel.ex hX x9
    replace hXL4 := Bel.ex hXL4 x9
    replace hown := hown.ext x9
    refine Rg_nil ?_
    refine W_seq ?_
    refine W_region ?_
    refine Rg_run rfl (o_moveh (v := u) rfl) ?_
    refine Rg_run rfl (o_fa Tryz.underlying43 rfl Tryz.sizeOf3 rfl) ?_
    refine Rg_run rfl (o_load1 Tryz.isAgg3 rfl (hb5.at.get 0 rfl)) ?_
    refine Rg_run rfl (o_convI Tryz.underlying3 Tryz.underlying23 rfl (by omega) (by omega)) ?_
    refine Rg_enter rfl (o_call1 Tryz.call94 rfl) (Ok.mono (rput_ok (BitVec.ofNat 64 (m.getD k ez).r.toNat) _) ?_)
    rintro v20 w11 ⟨hown20, x12⟩
    have z13 := Bel.size x12
    replace hX := Bel.ex hX x12
    replace hXL4 := Bel.ex hXL4 x12
    replace hown := hown.ext x12
    replace hb5 := hb5.ext x12
    replace hown20 := hown20.mono (D' := fun g => w.heap.size ≤ g) (fun g h1 h2 => by omega)
    obtain ⟨a20, c20, hv20, -⟩ := hown20.sl encB_ok
    subst hv20
    refine Rg_app rfl encB_ok el_b8 rfl rfl hown (hown20.slA encB_ok) rfl (by first | omega | (simp only [List.length_append, List.length_cons, List.length_nil]; omega)) (fun g h => by omega) ?_
    intro v21 w14 x15 hown
    have z16 := Bel.size x15
    replace hX := Bel.out hX x15 (fun g h1 h2 => by first | exact h2 | omega)
    replace hXL4 := Bel.out hXL4 x15 (fun g h1 h2 => by first | exact h2 | omega)
    replace hb5 := hb5.keep x15 (fun h => by omega)
    refine Rg_run rfl (o_assignh (v := v21) rfl) ?_
    refine Rg_nil ?_
    refine W_seq ?_
    refine W_region ?_
    refine Rg_run rfl (o_moveh (v := v21) rfl) ?_
    refine Rg_run rfl (o_fa Tryz.underlying43 rfl Tryz.sizeOf41 rfl) ?_
    refine Rg_run rfl (o_fa Tryz.underlying41 rfl Tryz.sizeOf9 rfl) ?_
    refine Rg_run rfl (o_load1 Tryz.isAgg9 rfl (hb5.at.get 1 rfl)) ?_
    refine Rg_sb rfl Tryz.underlying9 Tryz.underlying49 Tryz.underlying5 rfl (by omega) ?_
    intro a26 c26 w17 x18 hs26
    have z19 := Bel.size x18
    replace hX := Bel.ex hX x18
    replace hXL4 := Bel.ex hXL4 x18
    replace hown := hown.ext x18
    replace hb5 := hb5.ext x18
    refine Rg_enter rfl (o_call1 Tryz.call95 rfl) (Ok.mono (rputb_ok _ _ (m.getD k ez).p.act _ ⟨_, _, rfl, hs26⟩ (by omega)) ?_)
    rintro v27 w20 ⟨hown27, x21⟩
    have z22 := Bel.size x21
    replace hX := Bel.ex hX x21
    replace hXL4 := Bel.ex hXL4 x21
    replace hown := hown.ext x21
    replace hb5 := hb5.ext x21
    replace hown27 := hown27.mono (D' := fun g => w.heap.size ≤ g) (fun g h1 h2 => by omega)
    obtain ⟨a27, c27, hv27, -⟩ := hown27.sl encB_ok
    subst hv27
    refine Rg_app rfl encB_ok el_b8 rfl rfl hown (hown27.slA encB_ok) rfl (by first | omega | (simp only [List.length_append, List.length_cons, List.length_nil]; omega)) (fun g h => by omega) ?_
    intro v28 w23 x24 hown
    have z25 := Bel.size x24
    replace hX := Bel.out hX x24 (fun g h1 h2 => by first | exact h2 | omega)
    replace hXL4 := Bel.out hXL4 x24 (fun g h1 h2 => by first | exact h2 | omega)
    replace hb5 := hb5.keep x24 (fun h => by omega)
    refine Rg_run rfl (o_assignh (v := v28) rfl) ?_
    refine Rg_nil ?_
    refine W_seq ?_
    refine W_region ?_
    refine Rg_run rfl (o_moveh (v := v28) rfl) ?_
    refine Rg_run rfl (o_fa Tryz.underlying43 rfl Tryz.sizeOf41 rfl) ?_
    refine Rg_run rfl (o_fa Tryz.underlying41 rfl Tryz.sizeOf9 rfl) ?_
    refine Rg_run rfl (o_load1 Tryz.isAgg9 rfl (hb5.at.get 2 rfl)) ?_
    refine Rg_sb rfl Tryz.underlying9 Tryz.underlying49 Tryz.underlying5 rfl (by omega) ?_
    intro a33 c33 w26 x27 hs33
    have z28 := Bel.size x27
    replace hX := Bel.ex hX x27
    replace hXL4 := Bel.ex hXL4 x27
    replace hown := hown.ext x27
    replace hb5 := hb5.ext x27
    refine Rg_enter rfl (o_call1 Tryz.call95 rfl) (Ok.mono (rputb_ok _ _ (m.getD k ez).p.path _ ⟨_, _, rfl, hs33⟩ (by omega)) ?_)
    rintro v34 w29 ⟨hown34, x30⟩
    have z31 := Bel.size x30
    replace hX := Bel.ex hX x30
    replace hXL4 := Bel.ex hXL4 x30
    replace hown := hown.ext x30
    replace hb5 := hb5.ext x30
    replace hown34 := hown34.mono (D' := fun g => w.heap.size ≤ g) (fun g h1 h2 => by omega)
    obtain ⟨a34, c34, hv34, -⟩ := hown34.sl encB_ok
    subst hv34
    refine Rg_app rfl encB_ok el_b8 rfl rfl hown (hown34.slA encB_ok) rfl (by first | omega | (simp only [List.length_append, List.length_cons, List.length_nil]; omega)) (fun g h => by omega) ?_
    intro v35 w32 x33 hown
    have z34 := Bel.size x33
    replace hX := Bel.out hX x33 (fun g h1 h2 => by first | exact h2 | omega)
    replace hXL4 := Bel.out hXL4 x33 (fun g h1 h2 => by first | exact h2 | omega)
    replace hb5 := hb5.keep x33 (fun h => by omega)
    refine Rg_run rfl (o_assignh (v := v35) rfl) ?_
    refine Rg_nil ?_
    refine W_region ?_
    refine Rg_run rfl (o_moveh (v := v35) rfl) ?_
    refine Rg_run rfl (o_fa Tryz.underlying43 rfl Tryz.sizeOf41 rfl) ?_
    refine Rg_run rfl (o_fa Tryz.underlying41 rfl Tryz.sizeOf4 rfl) ?_
    refine Rg_run rfl (o_load1 Tryz.isAgg4 rfl (hb5.at.get 3 rfl)) ?_
    refine Rg_enter rfl (o_call1 Tryz.call96 rfl) (Ok.mono (rputf_ok (m.getD k ez).p.deep _) ?_)
    rintro v40 w35 ⟨hown40, x36⟩
    have z37 := Bel.size x36
    replace hX := Bel.ex hX x36
    replace hXL4 := Bel.ex hXL4 x36
    replace hown := hown.ext x36
    replace hown40 := hown40.mono (D' := fun g => w.heap.size ≤ g) (fun g h1 h2 => by omega)
    obtain ⟨a40, c40, hv40, -⟩ := hown40.sl encB_ok
    subst hv40
    refine Rg_app rfl encB_ok el_b8 rfl rfl hown (hown40.slA encB_ok) rfl (by first | omega | (simp only [List.length_append, List.length_cons, List.length_nil]; omega)) (fun g h => by omega) ?_
    intro v41 w38 x39 hown
    have z40 := Bel.size x39
    replace hX := Bel.out hX x39 (fun g h1 h2 => by first | exact h2 | omega)
    replace hXL4 := Bel.out hXL4 x39 (fun g h1 h2 => by first | exact h2 | omega)
    refine Rg_run rfl (o_assignh (v := v41) rfl) ?_
    refine Rg_nil ?_
    refine W_region ?_
    refine Rg_run rfl (o_add rfl rfl (by first | omega | (unfold I64; omega) | (simp; done) | (simp; omega) | (simp at *; omega))) ?_
    refine Rg_run rfl (o_moveh (v := .int _ _) rfl) ?_
    refine Rg_nil ?_
    refine ⟨(k + 1, v41), ⟨?_, ?_, trivial⟩, ?_, ⟨?_, hXL4, ?_⟩, ?_⟩
    · first | rfl | (go_num) | (exact congrArg _ (by omega))
    · first | rfl | (go_num) | (exact congrArg _ (by omega))
    · repeat (first | exact off_refl _ _ | exact off_mix | refine off_put rfl ?_ | refine off_putN ?_ | refine off_setL rfl ?_ | refine off_mix' rfl ?_)
    · show k + 1 ≤ m.length; omega
    · show Own _ _ _ _ _ _ (gbytesK m (k + 1)); rw [gbytesK_succ (by omega)]; exact hown.mono (fun g h1 h2 => h2.1)
    · show m.length - (k + 1) < m.length - k; omega
  · skip
    replace hc1 := of_decide_eq_false hc1
    refine W_exit ?_
    refine exAt_hit ?_
    refine W_seq ?_
    refine W_region ?_
    refine Rg_run rfl (o_moveh (v := u) rfl) ?_
    refine Rg_run rfl (o_assignh (v := u) rfl) ?_
    refine Rg_nil ?_
    refine W_ret ?_
    refine ⟨_, res_tmp rfl rfl, ?_⟩
    rw [gbytesK_end (by omega)] at hown
    exact ⟨hown.mono (fun g h1 h2 => by omega), hX⟩

end Go.Proofs.YtndlnfdaeipifaaGreatDoor
