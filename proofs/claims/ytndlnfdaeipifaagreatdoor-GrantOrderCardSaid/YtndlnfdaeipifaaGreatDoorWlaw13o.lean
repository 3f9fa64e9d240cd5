/- Walks, printed by program: each theorem says what a function of the translation returns. -/
import Derived.Test.YtndlnfdaeipifaaGreatDoorWawk13
import Derived.Test.YtndlnfdaeipifaaGreatDoorWwire
import Derived.Test.YtndlnfdaeipifaaGreatDoorGl
namespace Go.Proofs.YtndlnfdaeipifaaGreatDoor
open Go Go.Lx Go.RowKit
set_option maxRecDepth 100000
set_option linter.unusedVariables false
set_option linter.unusedSimpArgs false
set_option linter.unnecessarySimpa false
theorem grantR_err {m : List Ent} {e : Ent} (h : ¬ ((grantR m e).2 == 0) = true) : (grantR m e).1 = m := by
  have h' : (grantR m e).2 ≠ 0 := by simpa using h
  revert h'
  unfold grantR
  (repeat' split) <;> simp
theorem OpS_vp {β : Prop} {P : Program} {ops : Array Oper} {o : Oper} {fr : Fr} {w : World} {v : Value} {S : Post} (hg : o.guard = none) (h : xop P fr w o = .ok (.value v) w) (hs : S v w) : OpS β P ops o fr w S :=
  .inl ⟨by simp [Region.wanted, hg], .inl ⟨v, w, h, Ext.rfl' w, hs⟩⟩
def postGr (R : List Ent × Int) : Post := fun v w => ∃ p, v = .tuple #[p, .int .i64 R.2] ∧ GbP w p R.2 R.1
theorem postGr_stable (R : List Ent × Int) : Stable (postGr R) := fun _ _ _ ⟨p, h1, h2⟩ x => ⟨p, h1, h2.ext x⟩
theorem r2same_ok (v0 v1 : Value) (A C : Nat → Prop) (x y : List UInt8) (w : World) (hx : Rd encB 1 A w v0 x) (hy : Rd encB 1 C w v1 y) : Ok Tryz.prog 31 #[v0, v1] w fun v w' => v = .bool (x == y) ∧ Ext False w w' := by
  obtain ⟨a, c, rfl, hx⟩ := hx
  obtain ⟨b, d, rfl, hy⟩ := hy
  refine Ok_of_W 10 Tryz.func31 rfl rfl rfl ?_
  have hX : Ext False w w := Bel.refl _ _
  refine W_seq ?_
  refine W_region ?_
  refine Rg_run rfl o_assignc ?_
  refine Rg_nil ?_
  refine W_seq ?_
  refine W_region ?_
  refine Rg_run rfl (o_moveh (v := .slice _ _ _) rfl) ?_
  refine Rg_run rfl (o_bs Tryz.underlying49 Tryz.underlying5 Tryz.underlying9 rfl hx) ?_
  refine Rg_run rfl (o_moveh (v := .slice _ _ _) rfl) ?_
  refine Rg_run rfl (o_bs Tryz.underlying49 Tryz.underlying5 Tryz.underlying9 rfl hy) ?_
  refine Rg_run rfl (o_seql rfl rfl) ?_
  refine Rg_run rfl (o_assignh (v := .bool _) rfl) ?_
  refine Rg_nil ?_
  refine W_ret ?_
  refine ⟨_, res_tmp rfl rfl, ?_⟩
  refine ⟨congrArg Value.bool ?_, hX⟩
  all_goals (rfl)

theorem gbytes_ok (v0 : Value) (m : List Ent) (w : World) (hb0 : GbIs w v0 m) (hm : OkG m) (hl14 : m.length ≤ 14) : Ok Tryz.prog 32 #[v0] w fun v w' => Own encB 1 5 (Fsh w w') w' v (gbytes m) ∧ Ext False w w' := by
  obtain ⟨pb, ab, cb, rfl, hba, hb⟩ := hb0
  have hbl := hba.lt
  have hbk := fun k => gbytesK_len (m := m) (fun e he => (hm.ve e he).2.2.1) k hl14
  refine Ok_of_W 49 Tryz.func32 rfl rfl rfl ?_
  have hX : Ext False w w := Bel.refl _ _
  refine W_seq ?_
  refine W_region ?_
  refine Rg_run rfl o_assignc ?_
  refine Rg_nil ?_
  refine W_seq ?_
  refine W_seq ?_
  refine W_region ?_
  refine Rg_run rfl (o_moveh (v := .pointer _) rfl) ?_
  refine Rg_run rfl (o_peq Tryz.underlying25 rfl rfl) ?_
  refine Rg_nil ?_
  refine W_cond_false rfl ?_
  refine W_skip ?_
  refine W_seq ?_
  refine W_region ?_
  refine Rg_enter rfl (o_call0 Tryz.call69) (Ok.mono (wnew_ok _) ?_)
  rintro v8 w1 ⟨hownw, x2⟩
  have z3 := Bel.size x2
  replace hX := Bel.ex hX x2
  replace hb := hb.ext x2
  replace hba := hba.ext x2
  replace hownw := hownw.mono (D' := fun g => w.heap.size ≤ g) (fun g h1 h2 => by omega)
  refine Rg_run rfl (o_assignh (v := v8) rfl) ?_
  refine Rg_nil ?_
  refine W_seq ?_
  refine W_region ?_
  refine Rg_run rfl (o_moveh (v := v8) rfl) ?_
  refine Rg_run rfl (o_moveh (v := .pointer _) rfl) ?_
  refine Rg_run rfl (o_nilc rfl) ?_
  refine Rg_run rfl (o_fa Tryz.underlying102 rfl Tryz.sizeOf34 rfl) ?_
  refine Rg_run rfl (o_load1 Tryz.isAgg34 rfl (hba.get 0 rfl)) ?_
  refine Rg_run rfl (o_llen Tryz.underlying34 rfl) ?_
  refine Rg_run rfl (o_convV (n := m.length) Tryz.underlying3 Tryz.underlying23 rfl (by omega)) ?_
  refine Rg_enter rfl (o_call2 Tryz.call70 rfl rfl) (Ok.mono (wuint_ok v8 _ _ (BitVec.ofNat 64 m.length) _ hownw (fun g h => by omega) (by simp)) ?_)
  rintro _ w4 ⟨rfl, hownw, x5⟩
  have z6 := Bel.size x5
  replace hX := Bel.out hX x5 (fun g h1 h2 => by first | exact h2 | omega)
  replace hb := hb.keep x5 (fun g h1 h2 h3 => by omega)
  replace hba := hba.keep x5 (fun h => by omega)
  refine Rg_nil ?_
  refine W_seq ?_
  refine W_seq ?_
  refine W_region ?_
  refine Rg_run rfl (o_moveh (v := .pointer _) rfl) ?_
  refine Rg_run rfl (o_nilc rfl) ?_
  refine Rg_run rfl (o_fa Tryz.underlying102 rfl Tryz.sizeOf34 rfl) ?_
  refine Rg_run rfl (o_load1 Tryz.isAgg34 rfl (hba.get 0 rfl)) ?_
  refine Rg_run rfl (o_llen Tryz.underlying34 rfl) ?_
  refine Rg_run rfl o_movec ?_
  refine Rg_nil ?_
  refine W_block ?_
  refine W_for (α := Nat) [(5, 5), (22, 46)] (fun k => [(22, .int .i64 (k : Int))]) (fun k w' => (k ≤ m.length) ∧ Bel False (fun g => w.heap.size ≤ g) w4 w' ∧ (Wr 165 5 (fun g => w.heap.size ≤ g) w' v8 (gbytesK m k))) (fun k => m.length - k) 0 ⟨rfl, trivial⟩ ⟨Nat.zero_le _, Bel.refl _ _, (by rw [gbytesK_zero]; simpa using hownw)⟩ ?_
  rintro k fb9 w8 ⟨hk, hXL7, hownw⟩
  have z10 := Bel.size hXL7
  replace hX := Bel.out hX hXL7 (fun g h1 h2 => by first | exact h2 | omega)
  replace hb := hb.keep hXL7 (fun g h1 h2 h3 => by omega)
  refine W_seq ?_
  refine W_region ?_
  refine Rg_run rfl (o_lss rfl rfl) ?_
  refine Rg_nil ?_
  refine W_seq ?_
  refine W_cond rfl (fun hc2 => ?_) (fun hc2 => ?_)
  · skip
    replace hc2 := of_decide_eq_true hc2
    refine W_skip ?_
    refine W_seq ?_
    refine W_block ?_
    refine W_seq ?_
    refine W_region ?_
    have hvk := hm.ve _ (gm (z := ez) (show k < m.length by omega))
    have hbk1 := hbk k
    have hp1 := putU_len (BitVec.ofNat 64 (m.getD k ez).r.toNat); have hp2 := putB_lenG (m.getD k ez).p.act; have hp3 := putB_lenG (m.getD k ez).p.path; have hp4 := hvk.2.2.1.1; have hp5 := hvk.2.2.1.2; have hp6 := hvk.1; have hp7 := hvk.2.1
    refine Rg_run rfl (o_iaR Tryz.underlying34 Tryz.sizeOf76 hb rfl rfl (by first | omega | (unfold I64; omega) | (simp; done) | (simp; omega) | (simp at *; omega))) ?_
    refine Rg_run rfl (o_ldRS Tryz.isAgg76 Tryz.sizeOf76 hb rfl (getE ez (by omega))) ?_
    refine Rg_alst rfl rfl Tryz.zeroValue76 rfl Tryz.sizeOf76 (fun _ => rfl) rfl rfl ?_
    intro b5 w11 x12 hge5 hb5
    replace hownw := hownw.mono (D' := fun g => w.heap.size ≤ g ∧ g ≠ b5) (fun g h1 h2 => by omega)
    have hlt5 := hb5.lt
    change Box _ _ _ (encE _) at hb5
    have z13 := Bel.size x12
    replace hX := Bel.ex hX x12
    replace hXL7 := Bel.ex hXL7 x12
    replace hownw := hownw.ext x12
    refine Rg_nil ?_
    refine W_seq ?_
    refine W_region ?_
    refine Rg_run rfl (o_moveh (v := v8) rfl) ?_
    refine Rg_run rfl (o_fa Tryz.underlying76 rfl Tryz.sizeOf3 rfl) ?_
    refine Rg_run rfl (o_load1 Tryz.isAgg3 rfl (hb5.at.get 0 rfl)) ?_
    refine Rg_run rfl (o_convI Tryz.underlying3 Tryz.underlying23 rfl (by omega) (by omega)) ?_
    refine Rg_enter rfl (o_call2 Tryz.call70 rfl rfl) (Ok.mono (wuint_ok v8 _ _ (BitVec.ofNat 64 (m.getD k ez).r.toNat) _ hownw (fun g h => by omega) (by omega)) ?_)
    rintro _ w14 ⟨rfl, hownw, x15⟩
    have z16 := Bel.size x15
    replace hX := Bel.out hX x15 (fun g h1 h2 => by first | exact h2 | omega)
    replace hXL7 := Bel.out hXL7 x15 (fun g h1 h2 => by first | exact h2 | omega)
    replace hb5 := hb5.keep x15 (fun h => by omega)
    refine Rg_nil ?_
    refine W_seq ?_
    refine W_region ?_
    refine Rg_run rfl (o_moveh (v := v8) rfl) ?_
    refine Rg_run rfl (o_fa Tryz.underlying76 rfl Tryz.sizeOf52 rfl) ?_
    refine Rg_run rfl (o_fa Tryz.underlying52 rfl Tryz.sizeOf9 rfl) ?_
    refine Rg_run rfl (o_load1 Tryz.isAgg9 rfl (hb5.at.get 1 rfl)) ?_
    refine Rg_enter rfl (o_call2 Tryz.call71 rfl rfl) (Ok.mono (wstr_ok v8 _ _ (m.getD k ez).p.act _ hownw (fun g h => by omega) (by rw [List.length_append]; omega)) ?_)
    rintro _ w17 ⟨rfl, hownw, x18⟩
    have z19 := Bel.size x18
    replace hX := Bel.out hX x18 (fun g h1 h2 => by first | exact h2 | omega)
    replace hXL7 := Bel.out hXL7 x18 (fun g h1 h2 => by first | exact h2 | omega)
    replace hb5 := hb5.keep x18 (fun h => by omega)
    refine Rg_nil ?_
    refine W_seq ?_
    refine W_region ?_
    refine Rg_run rfl (o_moveh (v := v8) rfl) ?_
    refine Rg_run rfl (o_fa Tryz.underlying76 rfl Tryz.sizeOf52 rfl) ?_
    refine Rg_run rfl (o_fa Tryz.underlying52 rfl Tryz.sizeOf9 rfl) ?_
    refine Rg_run rfl (o_load1 Tryz.isAgg9 rfl (hb5.at.get 2 rfl)) ?_
    refine Rg_enter rfl (o_call2 Tryz.call71 rfl rfl) (Ok.mono (wstr_ok v8 _ _ (m.getD k ez).p.path _ hownw (fun g h => by omega) (by rw [List.length_append, List.length_append]; omega)) ?_)
    rintro _ w20 ⟨rfl, hownw, x21⟩
    have z22 := Bel.size x21
    replace hX := Bel.out hX x21 (fun g h1 h2 => by first | exact h2 | omega)
    replace hXL7 := Bel.out hXL7 x21 (fun g h1 h2 => by first | exact h2 | omega)
    replace hb5 := hb5.keep x21 (fun h => by omega)
    refine Rg_nil ?_
    refine W_region ?_
    refine Rg_run rfl (o_moveh (v := v8) rfl) ?_
    refine Rg_run rfl (o_fa Tryz.underlying76 rfl Tryz.sizeOf52 rfl) ?_
    refine Rg_run rfl (o_fa Tryz.underlying52 rfl Tryz.sizeOf4 rfl) ?_
    refine Rg_run rfl (o_load1 Tryz.isAgg4 rfl (hb5.at.get 3 rfl)) ?_
    refine Rg_enter rfl (o_call2 Tryz.call72 rfl rfl) (Ok.mono (wflag_ok v8 _ _ (m.getD k ez).p.deep _ hownw (fun g h => by omega) (by rw [List.length_append, List.length_append, List.length_append]; omega)) ?_)
    rintro _ w23 ⟨rfl, hownw, x24⟩
    have z25 := Bel.size x24
    replace hX := Bel.out hX x24 (fun g h1 h2 => by first | exact h2 | omega)
    replace hXL7 := Bel.out hXL7 x24 (fun g h1 h2 => by first | exact h2 | omega)
    refine Rg_nil ?_
    refine W_region ?_
    refine Rg_run rfl (o_add rfl rfl (by first | omega | (unfold I64; omega) | (simp; done) | (simp; omega) | (simp at *; omega))) ?_
    refine Rg_run rfl (o_moveh (v := .int _ _) rfl) ?_
    refine Rg_nil ?_
    refine ⟨k + 1, ⟨?_, trivial⟩, ?_, ⟨?_, hXL7, ?_⟩, ?_⟩
    · first | rfl | (go_num) | (exact congrArg _ (by omega))
    · repeat (first | exact off_refl _ _ | exact off_mix | refine off_put rfl ?_ | refine off_putN ?_ | refine off_setL rfl ?_ | refine off_mix' rfl ?_)
    · show k + 1 ≤ m.length; omega
    · rw [gbytesK_succ (by omega)]; exact hownw.mono (fun g h1 h2 => h2.1)
    · omega
  · skip
    replace hc2 := of_decide_eq_false hc2
    refine W_exit ?_
    refine exAt_hit ?_
    refine W_seq ?_
    refine W_region ?_
    refine Rg_run rfl (o_moveh (v := v8) rfl) ?_
    refine Rg_enter rfl (o_call1 Tryz.call73 rfl) (Ok.mono (wout_ok v8 _ _ _ hownw (by have := hbk k; omega)) ?_)
    rintro v48 w26 ⟨hown48, x27⟩
    have z28 := Bel.size x27
    replace hX := Bel.ex hX x27
    replace hown48 := hown48.mono (D' := fun g => w.heap.size ≤ g) (fun g h1 h2 => by omega)
    refine Rg_run rfl (o_assignh (v := v48) rfl) ?_
    refine Rg_nil ?_
    refine W_ret ?_
    refine ⟨_, res_tmp rfl rfl, ?_⟩
    rw [gbytesK_end (by omega)] at hown48
    exact ⟨hown48.mono (fun g h1 h2 => ⟨by omega, h1⟩), hX⟩

set_option maxHeartbeats 4000000 in
theorem law_GrantOrder (w : World) (hT : Tb w) (v0 : Value) (l : List GOp) (hs : Rd encGo 5 (Lt w.heap.size) w v0 l) (dl : ∀ z ∈ l, Sl encB 1 (Lt w.heap.size) w z.p.a z.p.c z.p.names) (t : UInt8) : Ok Tryz.prog 7 #[v0, .int .u8 (t.toNat : Int)] w fun v w' => v = .bool true ∧ Ext False w w' := by
  obtain ⟨a, c, rfl, hs⟩ := hs
  have hlen := hs.len
  have hTl := hT.lt
  refine Ok_of_W 109 Tryz.func7 rfl rfl rfl ?_
  have hX : Ext False w w := Bel.refl _ _
  refine W_seq ?_
  refine W_region ?_
  refine Rg_run rfl o_assignc ?_
  refine Rg_nil ?_
  refine W_seq ?_
  refine W_seq ?_
  refine W_region ?_
  refine Rg_enter rfl (o_call0 Tryz.call12) (Ok.mono (awake_ok _ hT) ?_)
  rintro _ w1 ⟨rfl, x2⟩
  have z3 := Bel.size x2
  replace hX := Bel.ex hX x2
  replace hT := hT.ext x2
  replace hs := hs.ext x2
  replace dl := (fun z hz => (dl z hz).ext x2)
  refine Rg_run rfl (o_not rfl) ?_
  refine Rg_nil ?_
  refine W_cond_false rfl ?_
  refine W_skip ?_
  refine W_seq ?_
  refine W_region ?_
  refine Rg_enter rfl (o_call0 Tryz.call29) (Ok.mono (gnew_ok _) ?_)
  rintro _ w4 ⟨p20, rfl, hbk20, x5⟩
  have z6 := Bel.size x5
  replace hX := Bel.ex hX x5
  replace hT := hT.ext x5
  replace hs := hs.ext x5
  replace dl := (fun z hz => (dl z hz).ext x5)
  refine Rg_enter rfl (o_call0 Tryz.call29) (Ok.mono (gnew_ok _) ?_)
  rintro _ w7 ⟨p21, rfl, hbk21, x8⟩
  have z9 := Bel.size x8
  replace hX := Bel.ex hX x8
  replace hT := hT.ext x8
  replace hs := hs.ext x8
  replace dl := (fun z hz => (dl z hz).ext x8)
  replace hbk20 := hbk20.ext x8
  refine Rg_run rfl (o_assignh (v := .pointer _) rfl) ?_
  refine Rg_run rfl (o_assignh (v := .pointer _) rfl) ?_
  refine Rg_nil ?_
  refine W_seq ?_
  refine W_region ?_
  refine Rg_run rfl (o_moveh (v := .slice _ _ _) rfl) ?_
  refine Rg_run rfl (o_moveh (v := .slice _ _ _) rfl) ?_
  refine Rg_run rfl (o_llen Tryz.underlying22 rfl) ?_
  refine Rg_run rfl (o_minN (a := l.length) (b := 12) rfl rfl) ?_
  refine Rg_run rfl (o_slto (j := min l.length 12) Tryz.underlying22 Tryz.sizeOf68 rfl rfl (by have := hs.le; omega)) ?_
  refine Rg_run rfl (o_assignh (v := .slice _ _ _) rfl) ?_
  refine Rg_nil ?_
  refine W_seq ?_
  refine W_seq ?_
  refine W_region ?_
  obtain ⟨l2, hl2⟩ : ∃ q, q = l.take (min l.length 12) := ⟨_, rfl⟩
  have hn2 : min l.length 12 = l2.length := by rw [hl2, List.length_take]; omega
  have hs2 := hs.take (min l.length 12)
  rw [← hl2] at hs2
  have dl2 : ∀ z ∈ l2, Sl encB 1 (Lt w.heap.size) w7 z.p.a z.p.c z.p.names := fun z hz => dl z (by rw [hl2] at hz; exact List.mem_of_mem_take hz)
  have h12 : l2.length ≤ 12 := by omega
  have ht8 := t.toNat_lt
  rw [hn2]
  refine Rg_run rfl (o_moveh (v := .slice _ _ _) rfl) ?_
  refine Rg_run rfl (o_llen Tryz.underlying22 rfl) ?_
  refine Rg_run rfl o_movec ?_
  refine Rg_nil ?_
  refine W_block ?_
  refine W_for (α := Nat × Value × Value) [(5, 17), (29, 86)] (fun q => [(29, .int .i64 (q.1 : Int)), (5, q.2.1), (6, q.2.2)]) (fun q w' => (q.1 ≤ l2.length) ∧ Ext False w7 w' ∧ (GbIs w' q.2.1 (grL (ordA l2 q.1)) ∧ GbIs w' q.2.2 (grL (ordB l2 t.toNat q.1)))) (fun q => l2.length - q.1) (0, .pointer (some ⟨p20, 0, none⟩), .pointer (some ⟨p21, 0, none⟩)) ⟨rfl, rfl, rfl, trivial⟩ ⟨Nat.zero_le _, Bel.refl _ _, ⟨hbk20, hbk21⟩⟩ ?_
  rintro ⟨k, vb, vc⟩ fb12 w11 ⟨hk, hXL10, ⟨hkk, hkc⟩⟩
  dsimp only at *
  have z13 := Bel.size hXL10
  replace hX := Bel.ex hX hXL10
  replace hT := hT.ext hXL10
  replace hs2 := hs2.ext hXL10
  replace dl2 := (fun z hz => (dl2 z hz).ext hXL10)
  obtain ⟨n0, hn0⟩ : ∃ n, n = w11.heap.size := ⟨_, rfl⟩
  replace hkk : GbF (fun g => g < n0) _ _ _ := hkk.f.mono (fun g h1 h2 => by omega)
  replace hkc : GbF (fun g => g < n0) _ _ _ := hkc.f.mono (fun g h1 h2 => by omega)
  refine W_seq ?_
  refine W_region ?_
  refine Rg_run rfl (o_lss rfl rfl) ?_
  refine Rg_nil ?_
  refine W_seq ?_
  refine W_cond rfl (fun hc2 => ?_) (fun hc2 => ?_)
  · skip
    replace hc2 := of_decide_eq_true hc2
    have hkl : k < l2.length := by omega
    have hmod := Nat.mod_lt (k + t.toNat) (show 0 < l2.length by omega)
    refine W_skip ?_
    refine W_seq ?_
    refine W_block ?_
    refine W_seq ?_
    refine W_region ?_
    refine Rg_run rfl (o_moveh (v := .int _ _) rfl) ?_
    refine Rg_run rfl (o_assignh (v := .int _ _) rfl) ?_
    refine Rg_nil ?_
    refine W_seq ?_
    apply W_drawC (β := False) (fun _ => 0) [peqC _, peqC _, peqC _, peqC _, peqC _, peqC _, peqC _, peqC _, peqC _, peqC _, peqC _, peqC _, peqC _, peqC _, peqC _, peqC _, peqC _, peqC _, (postBoxK w11 68 [.bool false, .int .u8 0, .int .u8 0, .slice none 0 0, .bool false] 1), (postBox w11 68 [.bool false, .int .u8 0, .int .u8 0, .slice none 0 0, .bool false]), (postBoxK w11 68 (encGo (l2.getD k goz)) 1)] [0, 0, 0, 0, 0, 0, 0, 0, 0, 0, 0, 0, 0, 0, 0, 0, 0, 0, 1, 0, 1] 21 mixed (by kernel_rfl) (by kernel_rfl) rfl ⟨peqC_stable _ _, peqC_stable _ _, peqC_stable _ _, peqC_stable _ _, peqC_stable _ _, peqC_stable _ _, peqC_stable _ _, peqC_stable _ _, peqC_stable _ _, peqC_stable _ _, peqC_stable _ _, peqC_stable _ _, peqC_stable _ _, peqC_stable _ _, peqC_stable _ _, peqC_stable _ _, peqC_stable _ _, peqC_stable _ _, (postBoxK_stable), (postBox_stable), (postBoxK_stable), trivial⟩ ?ob8 ?fin8
    case ob8 =>
      refine OblC_cons (fun w14 c16 x15 hc017 hk18 => ?_) ?_
      · skip
        replace x15 := RelG.ext0 x15
        have z19 := Bel.size x15
        have dl2 := (fun z hz => (dl2 z hz).ext x15)
        refine bindC_nil ?_
        exact OpC_v rfl (o_moveh (v := .slice _ _ _) rfl)
      refine OblC_cons (fun w20 c22 x21 hc023 hk24 => ?_) ?_
      · skip
        replace x21 := RelG.ext0 x21
        have z25 := Bel.size x21
        have dl2 := (fun z hz => (dl2 z hz).ext x21)
        refine bindC_nil ?_
        exact OpC_v rfl (o_moveh (v := .int _ _) rfl)
      refine OblC_cons (fun w26 c28 x27 hc029 hk30 => ?_) ?_
      · skip
        replace x27 := RelG.ext0 x27
        have z31 := Bel.size x27
        have hs2 := hs2.ext x27
        have dl2 := (fun z hz => (dl2 z hz).ext x27)
        refine bindC_eq ?_
        refine bindC_eq ?_
        refine bindC_nil ?_
        exact OpC_v rfl (o_iaR Tryz.underlying22 Tryz.sizeOf68 hs2 rfl rfl (by first | omega | (unfold I64; omega) | (simp; done) | (simp; omega) | (simp at *; omega)))
      refine OblC_cons (fun w32 c34 x33 hc035 hk36 => ?_) ?_
      · skip
        replace x33 := RelG.ext0 x33
        have z37 := Bel.size x33
        have hs2 := hs2.ext x33
        have dl2 := (fun z hz => (dl2 z hz).ext x33)
        refine bindC_eq ?_
        refine bindC_nil ?_
        exact OpC_v rfl (o_ldRS Tryz.isAgg68 Tryz.sizeOf68 hs2 rfl (getE goz hkl))
      refine OblC_cons (fun w38 c40 x39 hc041 hk42 => ?_) ?_
      · skip
        replace x39 := RelG.ext0 x39
        have z43 := Bel.size x39
        have dl2 := (fun z hz => (dl2 z hz).ext x39)
        refine bindC_nil ?_
        exact OpC_v rfl (o_moveh (v := .slice _ _ _) rfl)
      refine OblC_cons (fun w44 c46 x45 hc047 hk48 => ?_) ?_
      · skip
        replace x45 := RelG.ext0 x45
        have z49 := Bel.size x45
        have dl2 := (fun z hz => (dl2 z hz).ext x45)
        refine bindC_nil ?_
        exact OpC_v rfl (o_moveh (v := .slice _ _ _) rfl)
      refine OblC_cons (fun w50 c52 x51 hc053 hk54 => ?_) ?_
      · skip
        replace x51 := RelG.ext0 x51
        have z55 := Bel.size x51
        have dl2 := (fun z hz => (dl2 z hz).ext x51)
        refine bindC_eq ?_
        refine bindC_nil ?_
        exact OpC_v rfl (o_llen Tryz.underlying22 rfl)
      refine OblC_cons (fun w56 c58 x57 hc059 hk60 => ?_) ?_
      · skip
        replace x57 := RelG.ext0 x57
        have z61 := Bel.size x57
        have dl2 := (fun z hz => (dl2 z hz).ext x57)
        refine bindC_eq ?_
        refine bindC_nil ?_
        exact OpC_v rfl (o_subN (p := l2.length) (b := 1) rfl rfl (by omega) (by omega))
      refine OblC_cons (fun w62 c64 x63 hc065 hk66 => ?_) ?_
      · skip
        replace x63 := RelG.ext0 x63
        have z67 := Bel.size x63
        have dl2 := (fun z hz => (dl2 z hz).ext x63)
        refine bindC_nil ?_
        exact OpC_v rfl (o_moveh (v := .int _ _) rfl)
      refine OblC_cons (fun w68 c70 x69 hc071 hk72 => ?_) ?_
      · skip
        replace x69 := RelG.ext0 x69
        have z73 := Bel.size x69
        have dl2 := (fun z hz => (dl2 z hz).ext x69)
        refine bindC_nil ?_
        exact OpC_v rfl (o_moveh (v := .int _ _) rfl)
      refine OblC_cons (fun w74 c76 x75 hc077 hk78 => ?_) ?_
      · skip
        replace x75 := RelG.ext0 x75
        have z79 := Bel.size x75
        have dl2 := (fun z hz => (dl2 z hz).ext x75)
        refine bindC_eq ?_
        refine bindC_nil ?_
        exact OpC_v rfl (o_convS Tryz.underlying5 Tryz.underlying3 rfl (wrapB _))
      refine OblC_cons (fun w80 c82 x81 hc083 hk84 => ?_) ?_
      · skip
        replace x81 := RelG.ext0 x81
        have z85 := Bel.size x81
        have dl2 := (fun z hz => (dl2 z hz).ext x81)
        refine bindC_eq ?_
        refine bindC_eq ?_
        refine bindC_nil ?_
        exact OpC_v rfl (o_addN (p := k) (b := t.toNat) rfl rfl (by omega))
      refine OblC_cons (fun w86 c88 x87 hc089 hk90 => ?_) ?_
      · skip
        replace x87 := RelG.ext0 x87
        have z91 := Bel.size x87
        have dl2 := (fun z hz => (dl2 z hz).ext x87)
        refine bindC_nil ?_
        exact OpC_v rfl (o_moveh (v := .slice _ _ _) rfl)
      refine OblC_cons (fun w92 c94 x93 hc095 hk96 => ?_) ?_
      · skip
        replace x93 := RelG.ext0 x93
        have z97 := Bel.size x93
        have dl2 := (fun z hz => (dl2 z hz).ext x93)
        refine bindC_eq ?_
        refine bindC_nil ?_
        exact OpC_v rfl (o_llen Tryz.underlying22 rfl)
      refine OblC_cons (fun w98 c100 x99 hc0101 hk102 => ?_) ?_
      · skip
        replace x99 := RelG.ext0 x99
        have z103 := Bel.size x99
        have dl2 := (fun z hz => (dl2 z hz).ext x99)
        refine bindC_eq ?_
        refine bindC_eq ?_
        refine bindC_nil ?_
        exact OpC_v rfl (o_remN (a := k + t.toNat) (b := l2.length) rfl rfl (by omega) (by omega))
      refine OblC_cons (fun w104 c106 x105 hc0107 hk108 => ?_) ?_
      · skip
        replace x105 := RelG.ext0 x105
        have z109 := Bel.size x105
        have dl2 := (fun z hz => (dl2 z hz).ext x105)
        refine bindC_eq ?_
        refine bindC_eq ?_
        refine bindC_nil ?_
        exact OpC_v rfl (o_subN (p := l2.length - 1) (b := (k + t.toNat) % l2.length) rfl rfl (by omega) (by omega))
      refine OblC_cons (fun w110 c112 x111 hc0113 hk114 => ?_) ?_
      · skip
        replace x111 := RelG.ext0 x111
        have z115 := Bel.size x111
        have hs2 := hs2.ext x111
        have dl2 := (fun z hz => (dl2 z hz).ext x111)
        refine bindC_eq ?_
        refine bindC_eq ?_
        refine bindC_nil ?_
        exact OpC_v rfl (o_iaR Tryz.underlying22 Tryz.sizeOf68 hs2 rfl rfl (by first | omega | (unfold I64; omega) | (simp; done) | (simp; omega) | (simp at *; omega)))
      refine OblC_cons (fun w116 c118 x117 hc0119 hk120 => ?_) ?_
      · skip
        replace x117 := RelG.ext0 x117
        have z121 := Bel.size x117
        have hs2 := hs2.ext x117
        have dl2 := (fun z hz => (dl2 z hz).ext x117)
        refine bindC_eq ?_
        refine bindC_nil ?_
        exact OpC_v rfl (o_ldRS Tryz.isAgg68 Tryz.sizeOf68 hs2 rfl (show l2[(tix l2.length t.toNat k)]? = some (l2.getD (tix l2.length t.toNat k) goz) from getE goz (tix_lt hkl)))
      refine OblC_cons (fun w122 c124 x123 hc0125 hk126 => ?_) ?_
      · skip
        replace x123 := RelG.ext0 x123
        have z127 := Bel.size x123
        have dl2 := (fun z hz => (dl2 z hz).ext x123)
        refine bindC_nil ?_
        exact OpC_boxK (kc := 1) (Bel.size x123) rfl (o_alloc Tryz.zeroValue68)
      refine OblC_cons (fun w128 c130 x129 hc0131 hk132 => ?_) ?_
      · skip
        replace x129 := RelG.ext0 x129
        have z133 := Bel.size x129
        have dl2 := (fun z hz => (dl2 z hz).ext x129)
        refine bindC_nil ?_
        exact OpC_box (Bel.size x129) rfl (o_alloc Tryz.zeroValue68)
      refine OblC_cons (fun w134 c136 x135 hc0137 hk138 => ?_) ?_
      · skip
        replace x135 := RelG.ext0 x135
        have z139 := Bel.size x135
        have dl2 := (fun z hz => (dl2 z hz).ext x135)
        refine bindC_mem (fun v8 hv8 => ?_)
        obtain ⟨b8, rfl, hge8, hb8, hcb8⟩ := hv8
        refine bindC_eq ?_
        refine bindC_eq ?_
        refine bindC_eq ?_
        refine bindC_eq ?_
        refine bindC_eq ?_
        refine bindC_mem (fun v8 hv8 => ?_)
        obtain ⟨b8, rfl, hge8, hb8, hcb8⟩ := hv8
        refine bindC_mem (fun v9 hv9 => ?_)
        refine bindC_nil ?_
        exact OpC_storeLk (v := .agg _) (by decide) Tryz.sizeOf68 rfl rfl hge8 hb8 hcb8 rfl rfl rfl
      exact OblC_nil
    case fin8 =>
      intro w140 c142 x141 hc0143
      replace x141 := RelG.ext0 x141
      have z144 := Bel.size x141
      replace hX := Bel.ex hX x141
      replace hXL10 := Bel.ex hXL10 x141
      replace dl2 := (fun z hz => (dl2 z hz).ext x141)
      replace hkk := hkk.ext x141
      replace hkc := hkc.ext x141
      refine bindC_eq ?_
      refine bindC_eq ?_
      refine bindC_eq ?_
      refine bindC_eq ?_
      refine bindC_eq ?_
      refine bindC_eq ?_
      refine bindC_eq ?_
      refine bindC_eq ?_
      refine bindC_eq ?_
      refine bindC_eq ?_
      refine bindC_eq ?_
      refine bindC_eq ?_
      refine bindC_eq ?_
      refine bindC_eq ?_
      refine bindC_eq ?_
      refine bindC_eq ?_
      refine bindC_eq ?_
      refine bindC_eq ?_
      refine bindC_mem (fun v8 _ => ?_)
      refine bindC_mem (fun v9 hv9 => ?_)
      refine bindC_lk (v := v8) rfl (fun hst20 => ?_)
      refine bindC_nil ?_
      obtain ⟨b9, rfl, hge9, hb9, hcb9⟩ := hv9
      have hlt9 := hb9.lt
      obtain ⟨b8, rfl, hge8, hb8, hcb8⟩ := hst20
      have hne89 : b8 ≠ b9 := fun e => by rw [e, hcb9] at hcb8; cases hcb8
      have hlt8 := hb8.lt
      refine Rg_storeW (v := .agg _) rfl Tryz.sizeOf68 rfl rfl hb9 rfl rfl rfl ?_
      intro w145 c146 hb9
      change Box _ _ _ (encGo _) at hb9
      have z147 := Bel.size c146
      replace hX := Bel.out hX c146 (fun g h1 h2 => by first | exact h2 | omega)
      replace hXL10 := Bel.out hXL10 c146 (fun g h1 h2 => by first | exact h2 | omega)
      replace dl2 := fun z hz => (dl2 z hz).keep c146 (fun g h1 h2 h3 => by omega)
      replace hkk := hkk.keep c146 (fun g h1 h2 h3 => by omega)
      replace hkc := hkc.keep c146 (fun g h1 h2 h3 => by omega)
      replace hb8 := hb8.keep c146 (fun h => by omega)
      refine Rg_nil ?_
      refine W_seq ?_
      refine W_region ?_
      refine Rg_run rfl (o_fa Tryz.underlying68 rfl Tryz.sizeOf51 rfl) ?_
      refine Rg_run rfl (o_loadS Tryz.isAgg51 Tryz.sizeOf51 rfl (hb8.at.sub 2 3) rfl) ?_
      refine Rg_enter rfl (o_call1 Tryz.call22 rfl) (Ok.mono (make_ok _ (l2.getD k goz).p (dl2 _ (getD_mem hkl)).top) ?_)
      rintro _ w148 ⟨rfl, x149⟩
      have z150 := Bel.size x149
      replace hX := Bel.ex hX x149
      replace hXL10 := Bel.ex hXL10 x149
      replace dl2 := (fun z hz => (dl2 z hz).ext x149)
      replace hkk := hkk.ext x149
      replace hkc := hkc.ext x149
      replace hb9 := hb9.ext x149
      replace hb8 := hb8.ext x149
      refine Rg_run rfl (o_moveh (v := .tuple _) rfl) ?_
      refine Rg_run rfl (o_extract rfl rfl) ?_
      refine Rg_run rfl (o_extract rfl rfl) ?_
      refine Rg_newB rfl (o_alloc Tryz.zeroValue52) ?_
      intro b10 w151 x152 hge10 hb10
      have hlt10 := hb10.lt
      change Box _ _ _ ([str _, str _, .bool _]) at hb10
      have z153 := Bel.size x152
      replace hX := Bel.ex hX x152
      replace hXL10 := Bel.ex hXL10 x152
      replace dl2 := (fun z hz => (dl2 z hz).ext x152)
      replace hkk := hkk.ext x152
      replace hkc := hkc.ext x152
      replace hb9 := hb9.ext x152
      replace hb8 := hb8.ext x152
      refine Rg_newB rfl (o_alloc Tryz.zeroValue41) ?_
      intro b11 w154 x155 hge11 hb11
      have hlt11 := hb11.lt
      change Box _ _ _ ([str _, str _, .bool _]) at hb11
      have z156 := Bel.size x155
      replace hX := Bel.ex hX x155
      replace hXL10 := Bel.ex hXL10 x155
      replace dl2 := (fun z hz => (dl2 z hz).ext x155)
      replace hkk := hkk.ext x155
      replace hkc := hkc.ext x155
      replace hb9 := hb9.ext x155
      replace hb8 := hb8.ext x155
      replace hb10 := hb10.ext x155
      refine Rg_storeW (v := .agg _) rfl Tryz.sizeOf52 rfl rfl hb10 rfl rfl rfl ?_
      intro w157 c158 hb10
      change Box _ _ _ (encP _) at hb10
      have z159 := Bel.size c158
      replace hX := Bel.out hX c158 (fun g h1 h2 => by first | exact h2 | omega)
      replace hXL10 := Bel.out hXL10 c158 (fun g h1 h2 => by first | exact h2 | omega)
      replace dl2 := fun z hz => (dl2 z hz).keep c158 (fun g h1 h2 h3 => by omega)
      replace hkk := hkk.keep c158 (fun g h1 h2 h3 => by omega)
      replace hkc := hkc.keep c158 (fun g h1 h2 h3 => by omega)
      replace hb9 := hb9.keep c158 (fun h => by omega)
      replace hb8 := hb8.keep c158 (fun h => by omega)
      replace hb11 := hb11.keep c158 (fun h => by omega)
      refine Rg_storeW (v := .agg _) rfl Tryz.sizeOf41 rfl rfl hb11 rfl rfl rfl ?_
      intro w160 c161 hb11
      change Box _ _ _ (encP _) at hb11
      have z162 := Bel.size c161
      replace hX := Bel.out hX c161 (fun g h1 h2 => by first | exact h2 | omega)
      replace hXL10 := Bel.out hXL10 c161 (fun g h1 h2 => by first | exact h2 | omega)
      replace dl2 := fun z hz => (dl2 z hz).keep c161 (fun g h1 h2 h3 => by omega)
      replace hkk := hkk.keep c161 (fun g h1 h2 h3 => by omega)
      replace hkc := hkc.keep c161 (fun g h1 h2 h3 => by omega)
      replace hb9 := hb9.keep c161 (fun h => by omega)
      replace hb8 := hb8.keep c161 (fun h => by omega)
      replace hb10 := hb10.keep c161 (fun h => by omega)
      refine Rg_nil ?_
      refine W_seq ?_
      refine W_region ?_
      refine Rg_run rfl (o_fa Tryz.underlying68 rfl Tryz.sizeOf51 rfl) ?_
      refine Rg_run rfl (o_loadS Tryz.isAgg51 Tryz.sizeOf51 rfl (hb9.at.sub 2 3) rfl) ?_
      refine Rg_enter rfl (o_call1 Tryz.call22 rfl) (Ok.mono (make_ok _ (l2.getD (tix l2.length t.toNat k) goz).p (dl2 _ (getD_mem (tix_lt hkl))).top) ?_)
      rintro _ w163 ⟨rfl, x164⟩
      have z165 := Bel.size x164
      replace hX := Bel.ex hX x164
      replace hXL10 := Bel.ex hXL10 x164
      replace dl2 := (fun z hz => (dl2 z hz).ext x164)
      replace hkk := hkk.ext x164
      replace hkc := hkc.ext x164
      replace hb9 := hb9.ext x164
      replace hb8 := hb8.ext x164
      replace hb10 := hb10.ext x164
      refine Rg_run rfl (o_moveh (v := .tuple _) rfl) ?_
      refine Rg_run rfl (o_extract rfl rfl) ?_
      refine Rg_run rfl (o_extract rfl rfl) ?_
      refine Rg_newB rfl (o_alloc Tryz.zeroValue52) ?_
      intro b12 w166 x167 hge12 hb12
      have hlt12 := hb12.lt
      change Box _ _ _ ([str _, str _, .bool _]) at hb12
      have z168 := Bel.size x167
      replace hX := Bel.ex hX x167
      replace hXL10 := Bel.ex hXL10 x167
      replace dl2 := (fun z hz => (dl2 z hz).ext x167)
      replace hkk := hkk.ext x167
      replace hkc := hkc.ext x167
      replace hb9 := hb9.ext x167
      replace hb8 := hb8.ext x167
      replace hb10 := hb10.ext x167
      refine Rg_newB rfl (o_alloc Tryz.zeroValue41) ?_
      intro b13 w169 x170 hge13 hb13
      have hlt13 := hb13.lt
      change Box _ _ _ ([str _, str _, .bool _]) at hb13
      have z171 := Bel.size x170
      replace hX := Bel.ex hX x170
      replace hXL10 := Bel.ex hXL10 x170
      replace dl2 := (fun z hz => (dl2 z hz).ext x170)
      replace hkk := hkk.ext x170
      replace hkc := hkc.ext x170
      replace hb9 := hb9.ext x170
      replace hb8 := hb8.ext x170
      replace hb10 := hb10.ext x170
      replace hb12 := hb12.ext x170
      refine Rg_storeW (v := .agg _) rfl Tryz.sizeOf52 rfl rfl hb12 rfl rfl rfl ?_
      intro w172 c173 hb12
      change Box _ _ _ (encP _) at hb12
      have z174 := Bel.size c173
      replace hX := Bel.out hX c173 (fun g h1 h2 => by first | exact h2 | omega)
      replace hXL10 := Bel.out hXL10 c173 (fun g h1 h2 => by first | exact h2 | omega)
      replace dl2 := fun z hz => (dl2 z hz).keep c173 (fun g h1 h2 h3 => by omega)
      replace hkk := hkk.keep c173 (fun g h1 h2 h3 => by omega)
      replace hkc := hkc.keep c173 (fun g h1 h2 h3 => by omega)
      replace hb9 := hb9.keep c173 (fun h => by omega)
      replace hb8 := hb8.keep c173 (fun h => by omega)
      replace hb10 := hb10.keep c173 (fun h => by omega)
      replace hb13 := hb13.keep c173 (fun h => by omega)
      refine Rg_storeW (v := .agg _) rfl Tryz.sizeOf41 rfl rfl hb13 rfl rfl rfl ?_
      intro w175 c176 hb13
      change Box _ _ _ (encP _) at hb13
      have z177 := Bel.size c176
      replace hX := Bel.out hX c176 (fun g h1 h2 => by first | exact h2 | omega)
      replace hXL10 := Bel.out hXL10 c176 (fun g h1 h2 => by first | exact h2 | omega)
      replace dl2 := fun z hz => (dl2 z hz).keep c176 (fun g h1 h2 h3 => by omega)
      replace hkk := hkk.keep c176 (fun g h1 h2 h3 => by omega)
      replace hkc := hkc.keep c176 (fun g h1 h2 h3 => by omega)
      replace hb9 := hb9.keep c176 (fun h => by omega)
      replace hb8 := hb8.keep c176 (fun h => by omega)
      replace hb10 := hb10.keep c176 (fun h => by omega)
      replace hb12 := hb12.keep c176 (fun h => by omega)
      refine Rg_nil ?_
      refine W_seq ?_
      refine W_seq ?_
      apply W_draw (β := False) [peq _, peq _, peq _, peq _, peq _, (postGr (grantR (grL (ordA l2 k)) (l2.getD k goz).ent)), (postGr (grantR (grL (ordA l2 k)) (l2.getD k goz).ent)), (fun v w => GbP w v (grantR (grL (ordA l2 k)) (l2.getD k goz).ent).2 (grantR (grL (ordA l2 k)) (l2.getD k goz).ent).1), peq _, (fun v w => GbP w v (grantR (grL (ordA l2 k)) (l2.getD k goz).ent).2 (grantR (grL (ordA l2 k)) (l2.getD k goz).ent).1), peq _] 11 mixed (by kernel_rfl) rfl ⟨peq_stable _, peq_stable _, peq_stable _, peq_stable _, peq_stable _, (postGr_stable _), (postGr_stable _), ((fun _ _ _ h x => h.ext x)), peq_stable _, ((fun _ _ _ h x => h.ext x)), peq_stable _, trivial⟩ ?ob11 ?fin11
      case ob11 =>
        refine OblL_cons (fun w178 x179 => ?_) ?_
        · skip
          have z180 := Bel.size x179
          have dl2 := (fun z hz => (dl2 z hz).ext x179)
          refine bindP_nil ?_
          exact OpS_v rfl (o_moveh (v := vb) rfl)
        refine OblL_cons (fun w181 x182 => ?_) ?_
        · skip
          have z183 := Bel.size x182
          have dl2 := (fun z hz => (dl2 z hz).ext x182)
          refine bindP_nil ?_
          exact OpS_v rfl (o_fa Tryz.underlying68 rfl Tryz.sizeOf5 rfl)
        refine OblL_cons (fun w184 x185 => ?_) ?_
        · skip
          have z186 := Bel.size x185
          have dl2 := (fun z hz => (dl2 z hz).ext x185)
          have hb8 := hb8.ext x185
          refine bindP_eq ?_
          refine bindP_nil ?_
          exact OpS_v rfl (o_load1 Tryz.isAgg5 rfl (hb8.at.get 1 rfl))
        refine OblL_cons (fun w187 x188 => ?_) ?_
        · skip
          have z189 := Bel.size x188
          have dl2 := (fun z hz => (dl2 z hz).ext x188)
          refine bindP_eq ?_
          refine bindP_nil ?_
          exact OpS_call rfl (o_call1 Tryz.call19 rfl) (lrole_ok _ (l2.getD k goz).rl)
        refine OblL_cons (fun w190 x191 => ?_) ?_
        · skip
          have z192 := Bel.size x191
          have dl2 := (fun z hz => (dl2 z hz).ext x191)
          have hb10 := hb10.ext x191
          refine bindP_nil ?_
          exact OpS_v rfl (o_loadS Tryz.isAgg52 Tryz.sizeOf52 rfl hb10.at rfl)
        refine OblL_cons (fun w193 x194 => ?_) ?_
        · skip
          have z195 := Bel.size x194
          have dl2 := (fun z hz => (dl2 z hz).ext x194)
          have hkk := hkk.ext x194
          refine bindP_eq ?_
          refine bindP_eq ?_
          refine bindP_eq ?_
          refine bindP_eq ?_
          refine bindP_nil ?_
          exact OpS_mem rfl (o_call3 Tryz.call30 rfl rfl rfl) ((ggrant_ok _ (grL (ordA l2 k)) _ hkk.is (ordA_ok _ _) (l2.getD k goz).ent (GOp.okp _)).mono (fun v w2 ⟨h, x⟩ => ⟨x, h⟩))
        refine OblL_cons (fun w196 x197 => ?_) ?_
        · skip
          have z198 := Bel.size x197
          have dl2 := (fun z hz => (dl2 z hz).ext x197)
          refine bindP_mem (fun v68 hv68 => ?_)
          obtain ⟨p68, rfl, hp68⟩ := hv68
          refine bindP_nil ?_
          exact OpS_vp rfl (o_moveh (v := .tuple _) rfl) (⟨_, rfl, hp68⟩)
        refine OblL_cons (fun w199 x200 => ?_) ?_
        · skip
          have z201 := Bel.size x200
          have dl2 := (fun z hz => (dl2 z hz).ext x200)
          refine bindP_mem (fun v62 hv62 => ?_)
          obtain ⟨p62, rfl, hp62⟩ := hv62
          refine bindP_nil ?_
          exact OpS_vp rfl (o_extract rfl rfl) (hp62)
        refine OblL_cons (fun w202 x203 => ?_) ?_
        · skip
          have z204 := Bel.size x203
          have dl2 := (fun z hz => (dl2 z hz).ext x203)
          refine bindP_mem (fun v62 hv62 => ?_)
          obtain ⟨p62, rfl, hp62⟩ := hv62
          refine bindP_nil ?_
          exact OpS_v rfl (o_extract rfl rfl)
        refine OblL_cons (fun w205 x206 => ?_) ?_
        · skip
          have z207 := Bel.size x206
          have dl2 := (fun z hz => (dl2 z hz).ext x206)
          refine bindP_mem (fun v69 hv69 => ?_)
          skip
          refine bindP_mem (fun v68 hv68 => ?_)
          obtain ⟨p68, rfl, hp68⟩ := hv68
          refine bindP_eq ?_
          refine bindP_eq ?_
          refine bindP_eq ?_
          refine bindP_eq ?_
          refine bindP_eq ?_
          refine bindP_mem (fun v68 hv68 => ?_)
          obtain ⟨p68, rfl, hp68⟩ := hv68
          refine bindP_mem (fun v62 hv62 => ?_)
          obtain ⟨p62, rfl, hp62⟩ := hv62
          refine bindP_mem (fun v69 hv69 => ?_)
          skip
          refine bindP_nil ?_
          exact OpS_vp rfl (o_assignh (v := v69) rfl) (hv69)
        refine OblL_cons (fun w208 x209 => ?_) ?_
        · skip
          have z210 := Bel.size x209
          have dl2 := (fun z hz => (dl2 z hz).ext x209)
          refine bindP_eq ?_
          refine bindP_mem (fun v14 hv14 => ?_)
          skip
          refine bindP_eq ?_
          refine bindP_eq ?_
          refine bindP_eq ?_
          refine bindP_eq ?_
          refine bindP_eq ?_
          refine bindP_mem (fun v68 hv68 => ?_)
          obtain ⟨p68, rfl, hp68⟩ := hv68
          refine bindP_mem (fun v62 hv62 => ?_)
          obtain ⟨p62, rfl, hp62⟩ := hv62
          refine bindP_mem (fun v69 hv69 => ?_)
          skip
          refine bindP_eq ?_
          refine bindP_mem (fun v14 hv14 => ?_)
          skip
          refine bindP_nil ?_
          exact OpS_v rfl (o_assignh (v := .int _ _) rfl)
        exact OblL_nil
      case fin11 =>
        intro w211 x212
        have z213 := Bel.size x212
        replace hX := Bel.ex hX x212
        replace hXL10 := Bel.ex hXL10 x212
        replace dl2 := (fun z hz => (dl2 z hz).ext x212)
        replace hkk := hkk.ext x212
        replace hkc := hkc.ext x212
        replace hb9 := hb9.ext x212
        replace hb12 := hb12.ext x212
        refine bindP_eq ?_
        refine bindP_eq ?_
        refine bindP_eq ?_
        refine bindP_eq ?_
        refine bindP_eq ?_
        refine bindP_mem (fun v68 hv68 => ?_)
        obtain ⟨p68, rfl, hp68⟩ := hv68
        refine bindP_mem (fun v62 hv62 => ?_)
        obtain ⟨p62, rfl, hp62⟩ := hv62
        refine bindP_mem (fun v69 hv69 => ?_)
        skip
        refine bindP_eq ?_
        refine bindP_mem (fun v14 hv14 => ?_)
        skip
        refine bindP_eq ?_
        refine bindP_nil ?_
        refine Rg_nil ?_
        refine W_seq ?_
        refine W_region ?_
        refine Rg_run rfl (o_moveh (v := .int _ _) rfl) ?_
        refine Rg_run rfl (o_eql rfl rfl) ?_
        refine Rg_nil ?_
        refine W_cond rfl (fun hc3 => ?_) (fun hc3 => ?_)
        · skip
          skip
          refine W_region ?_
          refine Rg_run rfl (o_moveh (v := v14) rfl) ?_
          refine Rg_run rfl (o_assignh (v := v14) rfl) ?_
          refine Rg_nil ?_
          refine W_seq ?_
          apply W_draw (β := False) [peq _, peq _, peq _, peq _, peq _, (postGr (grantR (grL (ordB l2 t.toNat k)) (l2.getD (tix l2.length t.toNat k) goz).ent)), (postGr (grantR (grL (ordB l2 t.toNat k)) (l2.getD (tix l2.length t.toNat k) goz).ent)), (fun v w => GbP w v (grantR (grL (ordB l2 t.toNat k)) (l2.getD (tix l2.length t.toNat k) goz).ent).2 (grantR (grL (ordB l2 t.toNat k)) (l2.getD (tix l2.length t.toNat k) goz).ent).1), peq _, (fun v w => GbP w v (grantR (grL (ordB l2 t.toNat k)) (l2.getD (tix l2.length t.toNat k) goz).ent).2 (grantR (grL (ordB l2 t.toNat k)) (l2.getD (tix l2.length t.toNat k) goz).ent).1), peq _] 11 mixed (by kernel_rfl) rfl ⟨peq_stable _, peq_stable _, peq_stable _, peq_stable _, peq_stable _, (postGr_stable _), (postGr_stable _), ((fun _ _ _ h x => h.ext x)), peq_stable _, ((fun _ _ _ h x => h.ext x)), peq_stable _, trivial⟩ ?ob14 ?fin14
          case ob14 =>
            refine OblL_cons (fun w214 x215 => ?_) ?_
            · skip
              have z216 := Bel.size x215
              have dl2 := (fun z hz => (dl2 z hz).ext x215)
              refine bindP_nil ?_
              exact OpS_v rfl (o_moveh (v := vc) rfl)
            refine OblL_cons (fun w217 x218 => ?_) ?_
            · skip
              have z219 := Bel.size x218
              have dl2 := (fun z hz => (dl2 z hz).ext x218)
              refine bindP_nil ?_
              exact OpS_v rfl (o_fa Tryz.underlying68 rfl Tryz.sizeOf5 rfl)
            refine OblL_cons (fun w220 x221 => ?_) ?_
            · skip
              have z222 := Bel.size x221
              have dl2 := (fun z hz => (dl2 z hz).ext x221)
              have hb9 := hb9.ext x221
              refine bindP_eq ?_
              refine bindP_nil ?_
              exact OpS_v rfl (o_load1 Tryz.isAgg5 rfl (hb9.at.get 1 rfl))
            refine OblL_cons (fun w223 x224 => ?_) ?_
            · skip
              have z225 := Bel.size x224
              have dl2 := (fun z hz => (dl2 z hz).ext x224)
              refine bindP_eq ?_
              refine bindP_nil ?_
              exact OpS_call rfl (o_call1 Tryz.call19 rfl) (lrole_ok _ (l2.getD (tix l2.length t.toNat k) goz).rl)
            refine OblL_cons (fun w226 x227 => ?_) ?_
            · skip
              have z228 := Bel.size x227
              have dl2 := (fun z hz => (dl2 z hz).ext x227)
              have hb12 := hb12.ext x227
              refine bindP_nil ?_
              exact OpS_v rfl (o_loadS Tryz.isAgg52 Tryz.sizeOf52 rfl hb12.at rfl)
            refine OblL_cons (fun w229 x230 => ?_) ?_
            · skip
              have z231 := Bel.size x230
              have dl2 := (fun z hz => (dl2 z hz).ext x230)
              have hkc := hkc.ext x230
              refine bindP_eq ?_
              refine bindP_eq ?_
              refine bindP_eq ?_
              refine bindP_eq ?_
              refine bindP_nil ?_
              exact OpS_mem rfl (o_call3 Tryz.call30 rfl rfl rfl) ((ggrant_ok _ (grL (ordB l2 t.toNat k)) _ hkc.is (ordB_ok _ _ _) (l2.getD (tix l2.length t.toNat k) goz).ent (GOp.okp _)).mono (fun v w2 ⟨h, x⟩ => ⟨x, h⟩))
            refine OblL_cons (fun w232 x233 => ?_) ?_
            · skip
              have z234 := Bel.size x233
              have dl2 := (fun z hz => (dl2 z hz).ext x233)
              refine bindP_mem (fun v80 hv80 => ?_)
              obtain ⟨p80, rfl, hp80⟩ := hv80
              refine bindP_nil ?_
              exact OpS_vp rfl (o_moveh (v := .tuple _) rfl) (⟨_, rfl, hp80⟩)
            refine OblL_cons (fun w235 x236 => ?_) ?_
            · skip
              have z237 := Bel.size x236
              have dl2 := (fun z hz => (dl2 z hz).ext x236)
              refine bindP_mem (fun v74 hv74 => ?_)
              obtain ⟨p74, rfl, hp74⟩ := hv74
              refine bindP_nil ?_
              exact OpS_vp rfl (o_extract rfl rfl) (hp74)
            refine OblL_cons (fun w238 x239 => ?_) ?_
            · skip
              have z240 := Bel.size x239
              have dl2 := (fun z hz => (dl2 z hz).ext x239)
              refine bindP_mem (fun v74 hv74 => ?_)
              obtain ⟨p74, rfl, hp74⟩ := hv74
              refine bindP_nil ?_
              exact OpS_v rfl (o_extract rfl rfl)
            refine OblL_cons (fun w241 x242 => ?_) ?_
            · skip
              have z243 := Bel.size x242
              have dl2 := (fun z hz => (dl2 z hz).ext x242)
              refine bindP_mem (fun v81 hv81 => ?_)
              skip
              refine bindP_mem (fun v80 hv80 => ?_)
              obtain ⟨p80, rfl, hp80⟩ := hv80
              refine bindP_eq ?_
              refine bindP_eq ?_
              refine bindP_eq ?_
              refine bindP_eq ?_
              refine bindP_eq ?_
              refine bindP_mem (fun v80 hv80 => ?_)
              obtain ⟨p80, rfl, hp80⟩ := hv80
              refine bindP_mem (fun v74 hv74 => ?_)
              obtain ⟨p74, rfl, hp74⟩ := hv74
              refine bindP_mem (fun v81 hv81 => ?_)
              skip
              refine bindP_nil ?_
              exact OpS_vp rfl (o_assignh (v := v81) rfl) (hv81)
            refine OblL_cons (fun w244 x245 => ?_) ?_
            · skip
              have z246 := Bel.size x245
              have dl2 := (fun z hz => (dl2 z hz).ext x245)
              refine bindP_eq ?_
              refine bindP_mem (fun v16 hv16 => ?_)
              skip
              refine bindP_eq ?_
              refine bindP_eq ?_
              refine bindP_eq ?_
              refine bindP_eq ?_
              refine bindP_eq ?_
              refine bindP_mem (fun v80 hv80 => ?_)
              obtain ⟨p80, rfl, hp80⟩ := hv80
              refine bindP_mem (fun v74 hv74 => ?_)
              obtain ⟨p74, rfl, hp74⟩ := hv74
              refine bindP_mem (fun v81 hv81 => ?_)
              skip
              refine bindP_eq ?_
              refine bindP_mem (fun v16 hv16 => ?_)
              skip
              refine bindP_nil ?_
              exact OpS_v rfl (o_assignh (v := .int _ _) rfl)
            exact OblL_nil
          case fin14 =>
            intro w247 x248
            have z249 := Bel.size x248
            replace hX := Bel.ex hX x248
            replace hXL10 := Bel.ex hXL10 x248
            replace dl2 := (fun z hz => (dl2 z hz).ext x248)
            replace hkc := hkc.ext x248
            replace hv14 := hv14.ext x248
            refine bindP_eq ?_
            refine bindP_eq ?_
            refine bindP_eq ?_
            refine bindP_eq ?_
            refine bindP_eq ?_
            refine bindP_mem (fun v80 hv80 => ?_)
            obtain ⟨p80, rfl, hp80⟩ := hv80
            refine bindP_mem (fun v74 hv74 => ?_)
            obtain ⟨p74, rfl, hp74⟩ := hv74
            refine bindP_mem (fun v81 hv81 => ?_)
            skip
            refine bindP_eq ?_
            refine bindP_mem (fun v16 hv16 => ?_)
            skip
            refine bindP_eq ?_
            refine bindP_nil ?_
            refine Rg_nil ?_
            refine W_seq ?_
            refine W_region ?_
            refine Rg_run rfl (o_moveh (v := .int _ _) rfl) ?_
            refine Rg_run rfl (o_eql rfl rfl) ?_
            refine Rg_nil ?_
            refine W_cond rfl (fun hc4 => ?_) (fun hc4 => ?_)
            · skip
              skip
              refine W_region ?_
              refine Rg_run rfl (o_moveh (v := v16) rfl) ?_
              refine Rg_run rfl (o_assignh (v := v16) rfl) ?_
              refine Rg_nil ?_
              refine W_region ?_
              refine Rg_run rfl (o_add rfl rfl (by first | omega | (unfold I64; omega) | (simp; done) | (simp; omega) | (simp at *; omega))) ?_
              refine Rg_run rfl (o_moveh (v := .int _ _) rfl) ?_
              refine Rg_nil ?_
              refine ⟨(k + 1, v14, v16), ⟨?_, ?_, ?_, trivial⟩, ?_, ⟨?_, hXL10, ?_⟩, ?_⟩
              · first | rfl | (go_num) | (exact congrArg _ (by omega))
              · first | rfl | (go_num) | (exact congrArg _ (by omega))
              · first | rfl | (go_num) | (exact congrArg _ (by omega))
              · repeat (first | exact off_refl _ _ | exact off_mix | refine off_put rfl ?_ | refine off_putN ?_ | refine off_setL rfl ?_ | refine off_mix' rfl ?_)
              · show k + 1 ≤ l2.length; omega
              · exact ⟨(by show GbIs _ _ (grL (ordA l2 (k + 1))); rw [ordA_succ hkl]; exact hv14.1 (eq_of_beq hc3)), (by show GbIs _ _ (grL (ordB l2 t.toNat (k + 1))); rw [ordB_succ]; exact hv16.1 (eq_of_beq hc4))⟩
              · show l2.length - (k + 1) < l2.length - k; omega
            · skip
              skip
              refine W_skip ?_
              refine W_region ?_
              refine Rg_run rfl (o_add rfl rfl (by first | omega | (unfold I64; omega) | (simp; done) | (simp; omega) | (simp at *; omega))) ?_
              refine Rg_run rfl (o_moveh (v := .int _ _) rfl) ?_
              refine Rg_nil ?_
              refine ⟨(k + 1, v14, vc), ⟨?_, ?_, ?_, trivial⟩, ?_, ⟨?_, hXL10, ?_⟩, ?_⟩
              · first | rfl | (go_num) | (exact congrArg _ (by omega))
              · first | rfl | (go_num) | (exact congrArg _ (by omega))
              · first | rfl | (go_num) | (exact congrArg _ (by omega))
              · repeat (first | exact off_refl _ _ | exact off_mix | refine off_put rfl ?_ | refine off_putN ?_ | refine off_setL rfl ?_ | refine off_mix' rfl ?_)
              · show k + 1 ≤ l2.length; omega
              · exact ⟨(by show GbIs _ _ (grL (ordA l2 (k + 1))); rw [ordA_succ hkl]; exact hv14.1 (eq_of_beq hc3)), (by show GbIs _ _ (grL (ordB l2 t.toNat (k + 1))); rw [ordB_succ, grantR_err (by rw [hc4]; decide)]; exact hkc.is)⟩
              · show l2.length - (k + 1) < l2.length - k; omega
        · skip
          skip
          refine W_skip ?_
          refine W_seq ?_
          apply W_draw (β := False) [peq _, peq _, peq _, peq _, peq _, (postGr (grantR (grL (ordB l2 t.toNat k)) (l2.getD (tix l2.length t.toNat k) goz).ent)), (postGr (grantR (grL (ordB l2 t.toNat k)) (l2.getD (tix l2.length t.toNat k) goz).ent)), (fun v w => GbP w v (grantR (grL (ordB l2 t.toNat k)) (l2.getD (tix l2.length t.toNat k) goz).ent).2 (grantR (grL (ordB l2 t.toNat k)) (l2.getD (tix l2.length t.toNat k) goz).ent).1), peq _, (fun v w => GbP w v (grantR (grL (ordB l2 t.toNat k)) (l2.getD (tix l2.length t.toNat k) goz).ent).2 (grantR (grL (ordB l2 t.toNat k)) (l2.getD (tix l2.length t.toNat k) goz).ent).1), peq _] 11 mixed (by kernel_rfl) rfl ⟨peq_stable _, peq_stable _, peq_stable _, peq_stable _, peq_stable _, (postGr_stable _), (postGr_stable _), ((fun _ _ _ h x => h.ext x)), peq_stable _, ((fun _ _ _ h x => h.ext x)), peq_stable _, trivial⟩ ?ob14 ?fin14
          case ob14 =>
            refine OblL_cons (fun w250 x251 => ?_) ?_
            · skip
              have z252 := Bel.size x251
              have dl2 := (fun z hz => (dl2 z hz).ext x251)
              refine bindP_nil ?_
              exact OpS_v rfl (o_moveh (v := vc) rfl)
            refine OblL_cons (fun w253 x254 => ?_) ?_
            · skip
              have z255 := Bel.size x254
              have dl2 := (fun z hz => (dl2 z hz).ext x254)
              refine bindP_nil ?_
              exact OpS_v rfl (o_fa Tryz.underlying68 rfl Tryz.sizeOf5 rfl)
            refine OblL_cons (fun w256 x257 => ?_) ?_
            · skip
              have z258 := Bel.size x257
              have dl2 := (fun z hz => (dl2 z hz).ext x257)
              have hb9 := hb9.ext x257
              refine bindP_eq ?_
              refine bindP_nil ?_
              exact OpS_v rfl (o_load1 Tryz.isAgg5 rfl (hb9.at.get 1 rfl))
            refine OblL_cons (fun w259 x260 => ?_) ?_
            · skip
              have z261 := Bel.size x260
              have dl2 := (fun z hz => (dl2 z hz).ext x260)
              refine bindP_eq ?_
              refine bindP_nil ?_
              exact OpS_call rfl (o_call1 Tryz.call19 rfl) (lrole_ok _ (l2.getD (tix l2.length t.toNat k) goz).rl)
            refine OblL_cons (fun w262 x263 => ?_) ?_
            · skip
              have z264 := Bel.size x263
              have dl2 := (fun z hz => (dl2 z hz).ext x263)
              have hb12 := hb12.ext x263
              refine bindP_nil ?_
              exact OpS_v rfl (o_loadS Tryz.isAgg52 Tryz.sizeOf52 rfl hb12.at rfl)
            refine OblL_cons (fun w265 x266 => ?_) ?_
            · skip
              have z267 := Bel.size x266
              have dl2 := (fun z hz => (dl2 z hz).ext x266)
              have hkc := hkc.ext x266
              refine bindP_eq ?_
              refine bindP_eq ?_
              refine bindP_eq ?_
              refine bindP_eq ?_
              refine bindP_nil ?_
              exact OpS_mem rfl (o_call3 Tryz.call30 rfl rfl rfl) ((ggrant_ok _ (grL (ordB l2 t.toNat k)) _ hkc.is (ordB_ok _ _ _) (l2.getD (tix l2.length t.toNat k) goz).ent (GOp.okp _)).mono (fun v w2 ⟨h, x⟩ => ⟨x, h⟩))
            refine OblL_cons (fun w268 x269 => ?_) ?_
            · skip
              have z270 := Bel.size x269
              have dl2 := (fun z hz => (dl2 z hz).ext x269)
              refine bindP_mem (fun v80 hv80 => ?_)
              obtain ⟨p80, rfl, hp80⟩ := hv80
              refine bindP_nil ?_
              exact OpS_vp rfl (o_moveh (v := .tuple _) rfl) (⟨_, rfl, hp80⟩)
            refine OblL_cons (fun w271 x272 => ?_) ?_
            · skip
              have z273 := Bel.size x272
              have dl2 := (fun z hz => (dl2 z hz).ext x272)
              refine bindP_mem (fun v74 hv74 => ?_)
              obtain ⟨p74, rfl, hp74⟩ := hv74
              refine bindP_nil ?_
              exact OpS_vp rfl (o_extract rfl rfl) (hp74)
            refine OblL_cons (fun w274 x275 => ?_) ?_
            · skip
              have z276 := Bel.size x275
              have dl2 := (fun z hz => (dl2 z hz).ext x275)
              refine bindP_mem (fun v74 hv74 => ?_)
              obtain ⟨p74, rfl, hp74⟩ := hv74
              refine bindP_nil ?_
              exact OpS_v rfl (o_extract rfl rfl)
            refine OblL_cons (fun w277 x278 => ?_) ?_
            · skip
              have z279 := Bel.size x278
              have dl2 := (fun z hz => (dl2 z hz).ext x278)
              refine bindP_mem (fun v81 hv81 => ?_)
              skip
              refine bindP_mem (fun v80 hv80 => ?_)
              obtain ⟨p80, rfl, hp80⟩ := hv80
              refine bindP_eq ?_
              refine bindP_eq ?_
              refine bindP_eq ?_
              refine bindP_eq ?_
              refine bindP_eq ?_
              refine bindP_mem (fun v80 hv80 => ?_)
              obtain ⟨p80, rfl, hp80⟩ := hv80
              refine bindP_mem (fun v74 hv74 => ?_)
              obtain ⟨p74, rfl, hp74⟩ := hv74
              refine bindP_mem (fun v81 hv81 => ?_)
              skip
              refine bindP_nil ?_
              exact OpS_vp rfl (o_assignh (v := v81) rfl) (hv81)
            refine OblL_cons (fun w280 x281 => ?_) ?_
            · skip
              have z282 := Bel.size x281
              have dl2 := (fun z hz => (dl2 z hz).ext x281)
              refine bindP_eq ?_
              refine bindP_mem (fun v16 hv16 => ?_)
              skip
              refine bindP_eq ?_
              refine bindP_eq ?_
              refine bindP_eq ?_
              refine bindP_eq ?_
              refine bindP_eq ?_
              refine bindP_mem (fun v80 hv80 => ?_)
              obtain ⟨p80, rfl, hp80⟩ := hv80
              refine bindP_mem (fun v74 hv74 => ?_)
              obtain ⟨p74, rfl, hp74⟩ := hv74
              refine bindP_mem (fun v81 hv81 => ?_)
              skip
              refine bindP_eq ?_
              refine bindP_mem (fun v16 hv16 => ?_)
              skip
              refine bindP_nil ?_
              exact OpS_v rfl (o_assignh (v := .int _ _) rfl)
            exact OblL_nil
          case fin14 =>
            intro w283 x284
            have z285 := Bel.size x284
            replace hX := Bel.ex hX x284
            replace hXL10 := Bel.ex hXL10 x284
            replace dl2 := (fun z hz => (dl2 z hz).ext x284)
            replace hkk := hkk.ext x284
            replace hkc := hkc.ext x284
            refine bindP_eq ?_
            refine bindP_eq ?_
            refine bindP_eq ?_
            refine bindP_eq ?_
            refine bindP_eq ?_
            refine bindP_mem (fun v80 hv80 => ?_)
            obtain ⟨p80, rfl, hp80⟩ := hv80
            refine bindP_mem (fun v74 hv74 => ?_)
            obtain ⟨p74, rfl, hp74⟩ := hv74
            refine bindP_mem (fun v81 hv81 => ?_)
            skip
            refine bindP_eq ?_
            refine bindP_mem (fun v16 hv16 => ?_)
            skip
            refine bindP_eq ?_
            refine bindP_nil ?_
            refine Rg_nil ?_
            refine W_seq ?_
            refine W_region ?_
            refine Rg_run rfl (o_moveh (v := .int _ _) rfl) ?_
            refine Rg_run rfl (o_eql rfl rfl) ?_
            refine Rg_nil ?_
            refine W_cond rfl (fun hc5 => ?_) (fun hc5 => ?_)
            · skip
              skip
              refine W_region ?_
              refine Rg_run rfl (o_moveh (v := v16) rfl) ?_
              refine Rg_run rfl (o_assignh (v := v16) rfl) ?_
              refine Rg_nil ?_
              refine W_region ?_
              refine Rg_run rfl (o_add rfl rfl (by first | omega | (unfold I64; omega) | (simp; done) | (simp; omega) | (simp at *; omega))) ?_
              refine Rg_run rfl (o_moveh (v := .int _ _) rfl) ?_
              refine Rg_nil ?_
              refine ⟨(k + 1, vb, v16), ⟨?_, ?_, ?_, trivial⟩, ?_, ⟨?_, hXL10, ?_⟩, ?_⟩
              · first | rfl | (go_num) | (exact congrArg _ (by omega))
              · first | rfl | (go_num) | (exact congrArg _ (by omega))
              · first | rfl | (go_num) | (exact congrArg _ (by omega))
              · repeat (first | exact off_refl _ _ | exact off_mix | refine off_put rfl ?_ | refine off_putN ?_ | refine off_setL rfl ?_ | refine off_mix' rfl ?_)
              · show k + 1 ≤ l2.length; omega
              · exact ⟨(by show GbIs _ _ (grL (ordA l2 (k + 1))); rw [ordA_succ hkl, grantR_err (by rw [hc3]; decide)]; exact hkk.is), (by show GbIs _ _ (grL (ordB l2 t.toNat (k + 1))); rw [ordB_succ]; exact hv16.1 (eq_of_beq hc5))⟩
              · show l2.length - (k + 1) < l2.length - k; omega
            · skip
              skip
              refine W_skip ?_
              refine W_region ?_
              refine Rg_run rfl (o_add rfl rfl (by first | omega | (unfold I64; omega) | (simp; done) | (simp; omega) | (simp at *; omega))) ?_
              refine Rg_run rfl (o_moveh (v := .int _ _) rfl) ?_
              refine Rg_nil ?_
              refine ⟨(k + 1, vb, vc), ⟨?_, ?_, ?_, trivial⟩, ?_, ⟨?_, hXL10, ?_⟩, ?_⟩
              · first | rfl | (go_num) | (exact congrArg _ (by omega))
              · first | rfl | (go_num) | (exact congrArg _ (by omega))
              · first | rfl | (go_num) | (exact congrArg _ (by omega))
              · repeat (first | exact off_refl _ _ | exact off_mix | refine off_put rfl ?_ | refine off_putN ?_ | refine off_setL rfl ?_ | refine off_mix' rfl ?_)
              · show k + 1 ≤ l2.length; omega
              · exact ⟨(by show GbIs _ _ (grL (ordA l2 (k + 1))); rw [ordA_succ hkl, grantR_err (by rw [hc3]; decide)]; exact hkk.is), (by show GbIs _ _ (grL (ordB l2 t.toNat (k + 1))); rw [ordB_succ, grantR_err (by rw [hc5]; decide)]; exact hkc.is)⟩
              · show l2.length - (k + 1) < l2.length - k; omega
  · skip
    replace hc2 := of_decide_eq_false hc2
    refine W_exit ?_
    refine exAt_hit ?_
    refine W_seq ?_
    refine W_region ?_
    obtain rfl : k = l2.length := by omega
    rw [← ord_same l2 t.toNat h12] at hkc
    have hmo := ordA_ok l2 l2.length
    have hml := ordA_len l2 l2.length
    obtain ⟨m, hm⟩ : ∃ m, grL (ordA l2 l2.length) = m := ⟨_, rfl⟩
    rw [hm] at hkk hkc hmo hml
    refine Rg_run rfl (o_moveh (v := vb) rfl) ?_
    refine Rg_run rfl (o_moveh (v := vc) rfl) ?_
    refine Rg_enter rfl (o_call2 Tryz.call28 rfl rfl) (Ok.mono (geq_ok _ _ _ _ _ hkk.is hkc.is) ?_)
    rintro _ w286 ⟨rfl, x287⟩
    have z288 := Bel.size x287
    replace hX := Bel.ex hX x287
    replace hT := hT.ext x287
    replace hs2 := hs2.ext x287
    replace dl2 := (fun z hz => (dl2 z hz).ext x287)
    replace hkk := hkk.ext x287
    replace hkc := hkc.ext x287
    refine Rg_run rfl (o_moveh (v := .bool _) rfl) ?_
    refine Rg_on 3 90 rfl (congrArg Value.bool (beq_self_eq_true _)) ?_
    refine Rg_run rfl (o_moveh (v := vc) rfl) ?_
    refine Rg_on 3 90 rfl (congrArg Value.bool (beq_self_eq_true _)) ?_
    refine Rg_run rfl (o_moveh (v := vb) rfl) ?_
    refine Rg_on 3 90 rfl (congrArg Value.bool (beq_self_eq_true _)) ?_
    refine Rg_enter rfl (o_call2 Tryz.call28 rfl rfl) (Ok.mono (geq_ok _ _ _ _ _ hkc.is hkk.is) ?_)
    rintro _ w289 ⟨rfl, x290⟩
    have z291 := Bel.size x290
    replace hX := Bel.ex hX x290
    replace hT := hT.ext x290
    replace hs2 := hs2.ext x290
    replace dl2 := (fun z hz => (dl2 z hz).ext x290)
    replace hkk := hkk.ext x290
    replace hkc := hkc.ext x290
    refine Rg_run rfl (o_pickT (v := .bool _) (congrArg Value.bool (beq_self_eq_true _)) rfl) ?_
    refine Rg_run rfl (o_moveh (v := .bool _) rfl) ?_
    refine Rg_on 8 95 rfl (congrArg Value.bool (beq_self_eq_true _)) ?_
    refine Rg_run rfl (o_moveh (v := vb) rfl) ?_
    refine Rg_on 8 95 rfl (congrArg Value.bool (beq_self_eq_true _)) ?_
    refine Rg_enter rfl (o_call1 Tryz.call32 rfl) (Ok.mono (gbytes_ok _ _ _ hkk.is hmo (by omega)) ?_)
    rintro v97 w292 ⟨hown97, x293⟩
    have z294 := Bel.size x293
    replace hX := Bel.ex hX x293
    replace hT := hT.ext x293
    replace hs2 := hs2.ext x293
    replace dl2 := (fun z hz => (dl2 z hz).ext x293)
    replace hkk := hkk.ext x293
    replace hkc := hkc.ext x293
    replace hown97 := hown97.mono (D' := fun g => w.heap.size ≤ g) (fun g h1 h2 => by omega)
    refine Rg_on 8 95 rfl (congrArg Value.bool (beq_self_eq_true _)) ?_
    refine Rg_run rfl (o_moveh (v := vc) rfl) ?_
    refine Rg_on 8 95 rfl (congrArg Value.bool (beq_self_eq_true _)) ?_
    refine Rg_enter rfl (o_call1 Tryz.call32 rfl) (Ok.mono (gbytes_ok _ _ _ hkc.is hmo (by omega)) ?_)
    rintro v99 w295 ⟨hown99, x296⟩
    have z297 := Bel.size x296
    replace hX := Bel.ex hX x296
    replace hT := hT.ext x296
    replace hs2 := hs2.ext x296
    replace dl2 := (fun z hz => (dl2 z hz).ext x296)
    replace hkk := hkk.ext x296
    replace hkc := hkc.ext x296
    replace hown97 := hown97.ext x296
    replace hown99 := hown99.mono (D' := fun g => w.heap.size ≤ g) (fun g h1 h2 => by omega)
    refine Rg_on 8 95 rfl (congrArg Value.bool (beq_self_eq_true _)) ?_
    refine Rg_enter rfl (o_call2 Tryz.call31 rfl rfl) (Ok.mono (r2same_ok _ _ _ _ _ _ _ (hown97.trd encB_ok) (hown99.trd encB_ok)) ?_)
    rintro _ w298 ⟨rfl, x299⟩
    have z300 := Bel.size x299
    replace hX := Bel.ex hX x299
    replace hT := hT.ext x299
    replace hs2 := hs2.ext x299
    replace dl2 := (fun z hz => (dl2 z hz).ext x299)
    replace hkk := hkk.ext x299
    replace hkc := hkc.ext x299
    replace hown97 := hown97.ext x299
    replace hown99 := hown99.ext x299
    refine Rg_run rfl (o_pickT (v := .bool _) (congrArg Value.bool (beq_self_eq_true _)) rfl) ?_
    refine Rg_run rfl (o_moveh (v := .bool _) rfl) ?_
    refine Rg_on 15 102 rfl (congrArg Value.bool (beq_self_eq_true _)) ?_
    refine Rg_run rfl (o_moveh (v := vb) rfl) ?_
    refine Rg_on 15 102 rfl (congrArg Value.bool (beq_self_eq_true _)) ?_
    refine Rg_enter rfl (o_call1 Tryz.call34 rfl) (Ok.mono (gents_ok _ _ _ hkk.is hmo) ?_)
    rintro v104 w301 ⟨hown104, x302⟩
    have z303 := Bel.size x302
    replace hX := Bel.ex hX x302
    replace hT := hT.ext x302
    replace hs2 := hs2.ext x302
    replace dl2 := (fun z hz => (dl2 z hz).ext x302)
    replace hkk := hkk.ext x302
    replace hkc := hkc.ext x302
    replace hown97 := hown97.ext x302
    replace hown99 := hown99.ext x302
    replace hown104 := hown104.mono (D' := fun g => w.heap.size ≤ g) (fun g h1 h2 => by omega)
    obtain ⟨a104, c104, hv104, -⟩ := hown104.sl encE_ok
    subst hv104
    refine Rg_on 15 102 rfl (congrArg Value.bool (beq_self_eq_true _)) ?_
    refine Rg_run rfl (o_moveh (v := vc) rfl) ?_
    refine Rg_on 15 102 rfl (congrArg Value.bool (beq_self_eq_true _)) ?_
    refine Rg_enter rfl (o_call1 Tryz.call34 rfl) (Ok.mono (gents_ok _ _ _ hkc.is hmo) ?_)
    rintro v106 w304 ⟨hown106, x305⟩
    have z306 := Bel.size x305
    replace hX := Bel.ex hX x305
    replace hT := hT.ext x305
    replace hs2 := hs2.ext x305
    replace dl2 := (fun z hz => (dl2 z hz).ext x305)
    replace hkk := hkk.ext x305
    replace hkc := hkc.ext x305
    replace hown97 := hown97.ext x305
    replace hown99 := hown99.ext x305
    replace hown104 := hown104.ext x305
    replace hown106 := hown106.mono (D' := fun g => w.heap.size ≤ g) (fun g h1 h2 => by omega)
    obtain ⟨a106, c106, hv106, -⟩ := hown106.sl encE_ok
    subst hv106
    refine Rg_on 15 102 rfl (congrArg Value.bool (beq_self_eq_true _)) ?_
    refine Rg_enter rfl (o_call2 Tryz.call33 rfl rfl) (Ok.mono (gequal_ok _ _ _ _ _ _ _ _ _ (hown104.slA encE_ok) (hown106.slA encE_ok)) ?_)
    rintro _ w307 ⟨rfl, x308⟩
    have z309 := Bel.size x308
    replace hX := Bel.ex hX x308
    replace hT := hT.ext x308
    replace hs2 := hs2.ext x308
    replace dl2 := (fun z hz => (dl2 z hz).ext x308)
    replace hkk := hkk.ext x308
    replace hkc := hkc.ext x308
    replace hown97 := hown97.ext x308
    replace hown99 := hown99.ext x308
    replace hown104 := hown104.ext x308
    replace hown106 := hown106.ext x308
    refine Rg_run rfl (o_pickT (v := .bool _) (congrArg Value.bool (beq_self_eq_true _)) rfl) ?_
    refine Rg_run rfl (o_assignh (v := .bool _) rfl) ?_
    refine Rg_nil ?_
    refine W_ret ?_
    refine ⟨_, res_tmp rfl rfl, ?_⟩
    refine ⟨congrArg Value.bool ?_, hX⟩
    all_goals (exact beq_self_eq_true _)

end Go.Proofs.YtndlnfdaeipifaaGreatDoor
