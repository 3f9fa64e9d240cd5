/- Walks, printed by program: each theorem says what a function of the translation returns. -/
import Derived.Test.YtndlnfdaeipifaaGreatDoorWawk13
import Derived.Test.YtndlnfdaeipifaaGreatDoorWpset
namespace Go.Proofs.YtndlnfdaeipifaaGreatDoor
open Go Go.Lx Go.RowKit
set_option maxRecDepth 100000
set_option linter.unusedVariables false
set_option linter.unusedSimpArgs false
set_option linter.unnecessarySimpa false
theorem law_GrantRedundant (w : World) (hT : Tb w) (v0 : Value) (l : List GOp) (hs : Rd encGo 5 (Lt w.heap.size) w v0 l) (dl : ∀ z ∈ l, Sl encB 1 (Lt w.heap.size) w z.p.a z.p.c z.p.names) (lk : W64) : Ok Tryz.prog 3 #[v0, u64 lk] w fun v w' => v = .bool true ∧ Ext False w w' := by
  obtain ⟨a, c, rfl, hs⟩ := hs
  have hlen := hs.len
  have hTl := hT.lt
  refine Ok_of_W 43 Tryz.func3 rfl rfl rfl ?_
  have hX : Ext False w w := Bel.refl _ _
  refine W_seq ?_
  refine W_region ?_
  refine Rg_run rfl o_assignc ?_
  refine Rg_nil ?_
  refine W_seq ?_
  refine W_seq ?_
  refine W_region ?_
  refine Rg_enter rfl (o_call0 Tryz.call12) (Ok.mono (awake_ok _ hT) ?_)
  rintro _ w1 ⟨rfl, x2⟩
  have z3 := Bel.size x2
  replace hX := Bel.ex hX x2
  replace hT := hT.ext x2
  replace hs := hs.ext x2
  replace dl := (fun z hz => (dl z hz).ext x2)
  refine Rg_run rfl (o_not rfl) ?_
  refine Rg_nil ?_
  refine W_cond_false rfl ?_
  refine W_skip ?_
  refine W_seq ?_
  refine W_region ?_
  refine Rg_run rfl (o_moveh (v := .slice _ _ _) rfl) ?_
  refine Rg_enter rfl (o_call1 Tryz.call13 rfl) (Ok.mono (lplay13_ok _ _ l hs.trd (fun z hz => (dl z hz).top)) ?_)
  rintro _ w4 ⟨⟨p13, q13, m13, rfl, hm13, hbk13, hrq13⟩, x5⟩
  have z6 := Bel.size x5
  replace hX := Bel.ex hX x5
  replace hT := hT.ext x5
  replace hs := hs.ext x5
  replace dl := (fun z hz => (dl z hz).ext x5)
  refine Rg_run rfl (o_moveh (v := .tuple _) rfl) ?_
  refine Rg_run rfl (o_extract rfl rfl) ?_
  refine Rg_run rfl (o_extract rfl rfl) ?_
  refine Rg_run rfl (o_assignh (v := .pointer (some ⟨p13, 0, none⟩)) rfl) ?_
  refine Rg_run rfl (o_assignh (v := q13) rfl) ?_
  refine Rg_nil ?_
  refine W_seq ?_
  refine W_region ?_
  obtain ⟨am13, cm13, hme13, hms13⟩ := hrq13
  subst hme13
  have hlm13 := hm13.len
  refine Rg_run rfl (o_moveh (v := .int _ _) rfl) ?_
  refine Rg_enter rfl (o_call1 Tryz.call14 rfl) (Ok.mono (lkmake_ok _ _ hT) ?_)
  rintro _ w7 ⟨⟨h18, l18, L18, ρ18, rfl, hh18, hrl18, hlk18⟩, x8⟩
  have z9 := Bel.size x8
  replace hX := Bel.ex hX x8
  replace hT := hT.ext x8
  replace hbk13 := hbk13.ext x8
  replace hms13 := hms13.ext x8
  refine Rg_run rfl (o_moveh (v := .tuple _) rfl) ?_
  refine Rg_run rfl (o_extract rfl rfl) ?_
  refine Rg_run rfl (o_extract rfl rfl) ?_
  refine Rg_run rfl (o_assignh (v := h18) rfl) ?_
  refine Rg_run rfl (o_assignh (v := l18) rfl) ?_
  refine Rg_nil ?_
  refine W_seq ?_
  refine W_region ?_
  obtain ⟨ph, po, oo, hhe, hh1, hh2, hh3⟩ := hh18
  subst hhe
  obtain ⟨al18, cl18, hle18, hsl18⟩ := hrl18
  subst hle18
  refine Rg_run rfl (o_moveh (v := .pointer (some ⟨p13, 0, none⟩)) rfl) ?_
  refine Rg_run rfl (o_pne Tryz.underlying25 rfl rfl) ?_
  refine Rg_run rfl (o_moveh (v := .bool _) rfl) ?_
  refine Rg_on 2 23 rfl rfl ?_
  refine Rg_run rfl (o_moveh (v := .pointer (some ⟨ph, 0, none⟩)) rfl) ?_
  refine Rg_on 2 23 rfl rfl ?_
  refine Rg_run rfl (o_pne Tryz.underlying29 rfl rfl) ?_
  refine Rg_run rfl (o_pickT (v := .bool _) rfl rfl) ?_
  refine Rg_run rfl (o_moveh (v := .bool _) rfl) ?_
  refine Rg_on 6 27 rfl rfl ?_
  refine Rg_run rfl (o_moveh (v := .pointer (some ⟨p13, 0, none⟩)) rfl) ?_
  refine Rg_on 6 27 rfl rfl ?_
  refine Rg_run rfl (o_moveh (v := .pointer (some ⟨ph, 0, none⟩)) rfl) ?_
  refine Rg_on 6 27 rfl rfl ?_
  refine Rg_enter rfl (o_call2 Tryz.call16 rfl rfl) (Ok.mono (gred_ok _ _ _ hbk13.is hm13 _ (fun _ => True) _ (Or.inl ⟨L18, ph, po, oo, rfl, trivial, hh1, hh2.mono (fun _ _ _ => trivial), hh3, rfl⟩)) ?_)
  rintro v30 w10 ⟨hown30, x11⟩
  have z12 := Bel.size x11
  replace hX := Bel.ex hX x11
  replace hT := hT.ext x11
  replace hbk13 := hbk13.ext x11
  replace hms13 := hms13.ext x11
  replace hh1 := hh1.ext x11
  replace hh2 := hh2.ext x11
  replace hsl18 := hsl18.ext x11
  replace hown30 := hown30.mono (D' := fun g => w.heap.size ≤ g) (fun g h1 h2 => by omega)
  obtain ⟨a30, c30, hv30, hs30⟩ := hown30.sl encE_ok; subst hv30
  refine Rg_on 6 27 rfl rfl ?_
  refine Rg_run rfl (o_moveh (v := .slice _ _ _) rfl) ?_
  refine Rg_on 6 27 rfl rfl ?_
  refine Rg_run rfl (o_moveh (v := .slice _ _ _) rfl) ?_
  refine Rg_on 6 27 rfl rfl ?_
  refine Rg_enter rfl (o_call2 Tryz.call17 rfl rfl) (Ok.mono (r13red_ok _ _ _ m13 _ hms13 hm13 _ _ _ L18 hsl18) ?_)
  rintro v33 w13 ⟨hrd33, x14⟩
  have z15 := Bel.size x14
  replace hX := Bel.ex hX x14
  replace hT := hT.ext x14
  replace hbk13 := hbk13.ext x14
  replace hms13 := hms13.ext x14
  replace hh1 := hh1.ext x14
  replace hh2 := hh2.ext x14
  replace hsl18 := hsl18.ext x14
  replace hs30 := hs30.ext x14
  obtain ⟨a33, c33, hv33, hs33⟩ := hrd33; subst hv33
  refine Rg_on 6 27 rfl rfl ?_
  refine Rg_enter rfl (o_call2 Tryz.call15 rfl rfl) (Ok.mono (lsame13_ok _ _ _ _ _ _ _ _ _ hs30 hs33) ?_)
  rintro _ w16 ⟨rfl, x17⟩
  have z18 := Bel.size x17
  replace hX := Bel.ex hX x17
  replace hT := hT.ext x17
  replace hbk13 := hbk13.ext x17
  replace hms13 := hms13.ext x17
  replace hh1 := hh1.ext x17
  replace hh2 := hh2.ext x17
  replace hsl18 := hsl18.ext x17
  replace hs30 := hs30.ext x17
  replace hs33 := hs33.ext x17
  refine Rg_run rfl (o_pickT (v := .bool _) rfl rfl) ?_
  refine Rg_run rfl (o_moveh (v := .bool _) rfl) ?_
  refine Rg_on 15 36 rfl (congrArg Value.bool (beq_self_eq_true _)) ?_
  refine Rg_run rfl (o_moveh (v := .pointer (some ⟨p13, 0, none⟩)) rfl) ?_
  refine Rg_on 15 36 rfl (congrArg Value.bool (beq_self_eq_true _)) ?_
  refine Rg_enter rfl (o_call2 Tryz.call16 rfl rfl) (Ok.mono (gred_ok _ _ _ hbk13.is hm13 _ _ _ HyO.none) ?_)
  rintro v38 w19 ⟨hown38, x20⟩
  have z21 := Bel.size x20
  replace hX := Bel.ex hX x20
  replace hT := hT.ext x20
  replace hbk13 := hbk13.ext x20
  replace hms13 := hms13.ext x20
  replace hh1 := hh1.ext x20
  replace hh2 := hh2.ext x20
  replace hsl18 := hsl18.ext x20
  replace hs30 := hs30.ext x20
  replace hs33 := hs33.ext x20
  replace hown38 := hown38.mono (D' := fun g => w.heap.size ≤ g) (fun g h1 h2 => by omega)
  obtain ⟨a38, c38, hv38, hs38⟩ := hown38.sl encE_ok; subst hv38
  refine Rg_on 15 36 rfl (congrArg Value.bool (beq_self_eq_true _)) ?_
  refine Rg_run rfl (o_moveh (v := .slice _ _ _) rfl) ?_
  refine Rg_on 15 36 rfl (congrArg Value.bool (beq_self_eq_true _)) ?_
  refine Rg_enter rfl (o_call2 Tryz.call17 rfl rfl) (Ok.mono (r13red_ok _ _ _ m13 _ hms13 hm13 none 0 (fun _ => True) [] Sl.none) ?_)
  rintro v40 w22 ⟨hrd40, x23⟩
  have z24 := Bel.size x23
  replace hX := Bel.ex hX x23
  replace hT := hT.ext x23
  replace hbk13 := hbk13.ext x23
  replace hms13 := hms13.ext x23
  replace hh1 := hh1.ext x23
  replace hh2 := hh2.ext x23
  replace hsl18 := hsl18.ext x23
  replace hs30 := hs30.ext x23
  replace hs33 := hs33.ext x23
  replace hs38 := hs38.ext x23
  rw [red_nil] at hrd40; obtain ⟨a40, c40, hv40, hs40⟩ := hrd40; subst hv40
  refine Rg_on 15 36 rfl (congrArg Value.bool (beq_self_eq_true _)) ?_
  refine Rg_enter rfl (o_call2 Tryz.call15 rfl rfl) (Ok.mono (lsame13_ok _ _ _ _ _ _ _ _ _ hs38 hs40) ?_)
  rintro _ w25 ⟨rfl, x26⟩
  have z27 := Bel.size x26
  replace hX := Bel.ex hX x26
  replace hT := hT.ext x26
  replace hbk13 := hbk13.ext x26
  replace hms13 := hms13.ext x26
  replace hh1 := hh1.ext x26
  replace hh2 := hh2.ext x26
  replace hsl18 := hsl18.ext x26
  replace hs30 := hs30.ext x26
  replace hs33 := hs33.ext x26
  replace hs38 := hs38.ext x26
  replace hs40 := hs40.ext x26
  refine Rg_run rfl (o_pickT (v := .bool _) (congrArg Value.bool (beq_self_eq_true _)) rfl) ?_
  refine Rg_run rfl (o_assignh (v := .bool _) rfl) ?_
  refine Rg_nil ?_
  refine W_ret ?_
  refine ⟨_, res_tmp rfl rfl, ?_⟩
  refine ⟨congrArg Value.bool ?_, hX⟩
  all_goals (exact beq_self_eq_true _)

theorem law_GrantNeeds (w : World) (hT : Tb w) (v0 : Value) (l : List GOp) (hs : Rd encGo 5 (Lt w.heap.size) w v0 l) (dl : ∀ z ∈ l, Sl encB 1 (Lt w.heap.size) w z.p.a z.p.c z.p.names) (lk : W64) (r : UInt8) : Ok Tryz.prog 9 #[v0, u64 lk, .int .u8 (r.toNat : Int)] w fun v w' => v = .bool true ∧ Ext False w w' := by
  obtain ⟨a, c, rfl, hs⟩ := hs
  have hlen := hs.len
  have hTl := hT.lt
  refine Ok_of_W 77 Tryz.func9 rfl rfl rfl ?_
  have hX : Ext False w w := Bel.refl _ _
  refine W_seq ?_
  refine W_region ?_
  refine Rg_run rfl o_assignc ?_
  refine Rg_nil ?_
  refine W_seq ?_
  refine W_seq ?_
  refine W_region ?_
  refine Rg_enter rfl (o_call0 Tryz.call12) (Ok.mono (awake_ok _ hT) ?_)
  rintro _ w1 ⟨rfl, x2⟩
  have z3 := Bel.size x2
  replace hX := Bel.ex hX x2
  replace hT := hT.ext x2
  replace hs := hs.ext x2
  replace dl := (fun z hz => (dl z hz).ext x2)
  refine Rg_run rfl (o_not rfl) ?_
  refine Rg_nil ?_
  refine W_cond_false rfl ?_
  refine W_skip ?_
  refine W_seq ?_
  refine W_region ?_
  refine Rg_run rfl (o_moveh (v := .slice _ _ _) rfl) ?_
  refine Rg_enter rfl (o_call1 Tryz.call13 rfl) (Ok.mono (lplay13_ok _ _ l hs.trd (fun z hz => (dl z hz).top)) ?_)
  rintro _ w4 ⟨⟨p21, q21, m21, rfl, hm21, hbk21, hrq21⟩, x5⟩
  have z6 := Bel.size x5
  replace hX := Bel.ex hX x5
  replace hT := hT.ext x5
  replace hs := hs.ext x5
  replace dl := (fun z hz => (dl z hz).ext x5)
  refine Rg_run rfl (o_moveh (v := .tuple _) rfl) ?_
  refine Rg_run rfl (o_extract rfl rfl) ?_
  refine Rg_run rfl (o_extract rfl rfl) ?_
  refine Rg_run rfl (o_assignh (v := .pointer (some ⟨p21, 0, none⟩)) rfl) ?_
  refine Rg_run rfl (o_assignh (v := q21) rfl) ?_
  refine Rg_nil ?_
  refine W_seq ?_
  refine W_region ?_
  obtain ⟨am21, cm21, hme21, hms21⟩ := hrq21
  subst hme21
  have hlm21 := hm21.len
  refine Rg_run rfl (o_moveh (v := .int _ _) rfl) ?_
  refine Rg_enter rfl (o_call1 Tryz.call14 rfl) (Ok.mono (lkmake_ok _ _ hT) ?_)
  rintro _ w7 ⟨⟨h26, l26, L26, ρ26, rfl, hh26, hrl26, hlk26⟩, x8⟩
  have z9 := Bel.size x8
  replace hX := Bel.ex hX x8
  replace hT := hT.ext x8
  replace hbk21 := hbk21.ext x8
  replace hms21 := hms21.ext x8
  refine Rg_run rfl (o_moveh (v := .tuple _) rfl) ?_
  refine Rg_run rfl (o_extract rfl rfl) ?_
  refine Rg_run rfl (o_extract rfl rfl) ?_
  refine Rg_run rfl (o_assignh (v := h26) rfl) ?_
  refine Rg_run rfl (o_assignh (v := l26) rfl) ?_
  refine Rg_nil ?_
  refine W_seq ?_
  refine W_seq ?_
  refine W_region ?_
  obtain ⟨ph, po, oo, hhe, hh1, hh2, hh3⟩ := hh26
  subst hhe
  obtain ⟨al26, cl26, hle26, hsl26⟩ := hrl26
  subst hle26
  have hphl := hh1.lt
  refine Rg_run rfl (o_moveh (v := .pointer (some ⟨p21, 0, none⟩)) rfl) ?_
  refine Rg_run rfl (o_peq Tryz.underlying25 rfl rfl) ?_
  refine Rg_run rfl (o_moveh (v := .bool _) rfl) ?_
  refine Rg_on 2 31 rfl rfl ?_
  refine Rg_run rfl (o_moveh (v := .pointer (some ⟨ph, 0, none⟩)) rfl) ?_
  refine Rg_on 2 31 rfl rfl ?_
  refine Rg_run rfl (o_peq Tryz.underlying29 rfl rfl) ?_
  refine Rg_run rfl (o_pickF (v := .bool _) rfl rfl) ?_
  refine Rg_nil ?_
  refine W_cond_false rfl ?_
  refine W_skip ?_
  refine W_seq ?_
  refine W_region ?_
  refine Rg_run rfl (o_moveh (v := .pointer (some ⟨p21, 0, none⟩)) rfl) ?_
  refine Rg_run rfl (o_assignh (v := .pointer (some ⟨p21, 0, none⟩)) rfl) ?_
  refine Rg_nil ?_
  refine W_seq ?_
  refine W_seq ?_
  refine W_region ?_
  refine Rg_run rfl (o_moveh (v := .pointer (some ⟨p21, 0, none⟩)) rfl) ?_
  refine Rg_run rfl (o_moveh (v := .pointer (some ⟨ph, 0, none⟩)) rfl) ?_
  refine Rg_enter rfl (o_call2 Tryz.call16 rfl rfl) (Ok.mono (gred_ok _ _ _ hbk21.is hm21 _ (fun _ => True) _ (Or.inl ⟨L26, ph, po, oo, rfl, trivial, hh1, hh2.mono (fun _ _ _ => trivial), hh3, rfl⟩)) ?_)
  rintro v38 w10 ⟨hown38, x11⟩
  have z12 := Bel.size x11
  replace hX := Bel.ex hX x11
  replace hT := hT.ext x11
  replace hbk21 := hbk21.ext x11
  replace hms21 := hms21.ext x11
  replace hh1 := hh1.ext x11
  replace hh2 := hh2.ext x11
  replace hsl26 := hsl26.ext x11
  obtain ⟨a38, c38, hv38, hs38⟩ := hown38.sl encE_ok; subst hv38
  refine Rg_run rfl (o_llen Tryz.underlying34 rfl) ?_
  refine Rg_run rfl o_movec ?_
  refine Rg_nil ?_
  refine W_block ?_
  refine W_for (α := Nat × Nat) [(6, 6), (11, 11), (13, 15), (40, 56)] (fun q => [(40, .int .i64 (q.1 : Int)), (11, .pointer (some ⟨q.2, 0, none⟩))]) (fun q w' => (q.1 ≤ (redL (impLk L26) m21 m21).length) ∧ Ext False w10 w' ∧ (GbIs w' (.pointer (some ⟨q.2, 0, none⟩)) (lessL m21 ((redL (impLk L26) m21 m21).take q.1)))) (fun q => (redL (impLk L26) m21 m21).length - q.1) (0, p21) ⟨rfl, rfl, trivial⟩ ⟨Nat.zero_le _, Bel.refl _ _, (by rw [List.take_zero, lessL_nil]; exact hbk21.is)⟩ ?_
  rintro ⟨k, pc⟩ fb15 w14 ⟨hk, hXL13, hbc⟩
  dsimp only at *
  have z16 := Bel.size hXL13
  replace hX := Bel.ex hX hXL13
  replace hT := hT.ext hXL13
  replace hbk21 := hbk21.ext hXL13
  replace hms21 := hms21.ext hXL13
  replace hh1 := hh1.ext hXL13
  replace hh2 := hh2.ext hXL13
  replace hsl26 := hsl26.ext hXL13
  replace hs38 := hs38.ext hXL13
  refine W_seq ?_
  refine W_region ?_
  refine Rg_run rfl (o_lss rfl rfl) ?_
  refine Rg_nil ?_
  refine W_seq ?_
  refine W_cond rfl (fun hc3 => ?_) (fun hc3 => ?_)
  · skip
    replace hc3 := of_decide_eq_true hc3
    refine W_skip ?_
    refine W_seq ?_
    refine W_block ?_
    refine W_seq ?_
    refine W_region ?_
    refine Rg_run rfl (o_iaR Tryz.underlying34 Tryz.sizeOf76 hs38 rfl rfl (by first | omega | (unfold I64; omega) | (simp; done) | (simp; omega) | (simp at *; omega))) ?_
    refine Rg_run rfl (o_ldRS Tryz.isAgg76 Tryz.sizeOf76 hs38 rfl (getE ez (by omega))) ?_
    refine Rg_alst rfl rfl Tryz.zeroValue76 rfl Tryz.sizeOf76 (fun _ => rfl) rfl rfl ?_
    intro b13 w17 x18 hge13 hb13
    have hlt13 := hb13.lt
    change Box _ _ _ (encE _) at hb13
    have z19 := Bel.size x18
    replace hX := Bel.ex hX x18
    replace hXL13 := Bel.ex hXL13 x18
    replace hbc := hbc.ext x18
    refine Rg_nil ?_
    refine W_seq ?_
    refine W_region ?_
    refine Rg_run rfl (o_moveh (v := .pointer _) rfl) ?_
    refine Rg_run rfl (o_fa Tryz.underlying76 rfl Tryz.sizeOf3 rfl) ?_
    refine Rg_run rfl (o_load1 Tryz.isAgg3 rfl (hb13.at.get 0 rfl)) ?_
    refine Rg_run rfl (o_fa Tryz.underlying76 rfl Tryz.sizeOf52 rfl) ?_
    refine Rg_run rfl (o_loadS Tryz.isAgg52 Tryz.sizeOf52 rfl (hb13.at.sub 1 3) rfl) ?_
    refine Rg_enter rfl (o_call3 Tryz.call38 rfl rfl rfl) (Ok.mono (gdropC_ok _ _ _ hbc (hm21.less _) ((redL (impLk L26) m21 m21).getD k ez) (hm21.ve _ (List.mem_filter.1 (gm (z := ez) (show k < (redL (impLk L26) m21 m21).length by omega))).1).2.2.1 (less_drop hm21 (by omega))) ?_)
    rintro _ w20 ⟨⟨p50, rfl, hbk50⟩, x21⟩
    have z22 := Bel.size x21
    replace hX := Bel.ex hX x21
    replace hXL13 := Bel.ex hXL13 x21
    refine Rg_run rfl (o_moveh (v := .tuple _) rfl) ?_
    refine Rg_run rfl (o_extract rfl rfl) ?_
    refine Rg_run rfl (o_extract rfl rfl) ?_
    refine Rg_run rfl (o_assignh (v := .pointer (some ⟨p50, 0, none⟩)) rfl) ?_
    refine Rg_run rfl (o_assignh (v := .int _ _) rfl) ?_
    refine Rg_nil ?_
    refine W_seq ?_
    refine W_seq ?_
    refine W_region ?_
    refine Rg_run rfl (o_moveh (v := .int _ _) rfl) ?_
    refine Rg_run rfl (o_neq rfl rfl) ?_
    refine Rg_nil ?_
    refine W_cond_false (congrArg Value.bool (by decide)) ?_
    refine W_skip ?_
    refine W_region ?_
    refine Rg_run rfl (o_moveh (v := .pointer (some ⟨p50, 0, none⟩)) rfl) ?_
    refine Rg_run rfl (o_assignh (v := .pointer (some ⟨p50, 0, none⟩)) rfl) ?_
    refine Rg_nil ?_
    refine W_region ?_
    refine Rg_run rfl (o_add rfl rfl (by have := red_len (impLk L26) m21 m21; unfold I64; omega)) ?_
    refine Rg_run rfl (o_moveh (v := .int _ _) rfl) ?_
    refine Rg_nil ?_
    refine ⟨(k + 1, p50), ⟨?_, ?_, trivial⟩, ?_, ⟨?_, hXL13, ?_⟩, ?_⟩
    · first | rfl | (go_num) | (exact congrArg _ (by omega))
    · first | rfl | (go_num) | (exact congrArg _ (by omega))
    · repeat (first | exact off_refl _ _ | exact off_mix | refine off_put rfl ?_ | refine off_putN ?_ | refine off_setL rfl ?_ | refine off_mix' rfl ?_)
    · show k + 1 ≤ (redL (impLk L26) m21 m21).length; omega
    · exact hbk50
    · show (redL (impLk L26) m21 m21).length - (k + 1) < (redL (impLk L26) m21 m21).length - k; omega
  · skip
    replace hc3 := of_decide_eq_false hc3
    refine W_exit ?_
    refine exAt_hit ?_
    refine W_seq ?_
    refine W_region ?_
    rw [List.take_of_length_le (by omega)] at hbc
    refine Rg_run rfl (o_moveh (v := .pointer (some ⟨ph, 0, none⟩)) rfl) ?_
    refine Rg_run rfl (o_moveh (v := .int _ _) rfl) ?_
    refine Rg_run rfl (o_convB8 Tryz.underlying5 Tryz.underlying23 rfl) ?_
    refine Rg_run rfl (o_bandn (b := BitVec.ofNat 64 1) rfl rfl) ?_
    generalize hfew : (BitVec.ofNat 64 r.toNat &&& ~~~(BitVec.ofNat 64 1)) = few
    refine Rg_enter rfl (o_call1 Tryz.call26 rfl) (Ok.mono (roles_ok few _) ?_)
    rintro _ w23 ⟨a61, c61, rfl, hq61, x24⟩
    have z25 := Bel.size x24
    replace hX := Bel.ex hX x24
    replace hT := hT.ext x24
    replace hbk21 := hbk21.ext x24
    replace hms21 := hms21.ext x24
    replace hh1 := hh1.ext x24
    replace hh2 := hh2.ext x24
    replace hsl26 := hsl26.ext x24
    replace hs38 := hs38.ext x24
    replace hbc := hbc.ext x24
    refine Rg_enter rfl (o_call2 Tryz.call39 rfl rfl) (Ok.mono (hclos_ok (some ⟨ph, 0, none⟩) (some oo) (fun _ => True) ⟨a61, c61, few⟩ _ _ ⟨ph, po, rfl, trivial, hh1, hh2.mono (fun _ _ _ => trivial)⟩ hq61 hT) ?_)
    rintro _ w26 ⟨a62, c62, rfl, hq62, x27⟩
    have z28 := Bel.size x27
    replace hX := Bel.ex hX x27
    replace hT := hT.ext x27
    replace hbk21 := hbk21.ext x27
    replace hms21 := hms21.ext x27
    replace hh1 := hh1.ext x27
    replace hh2 := hh2.ext x27
    replace hsl26 := hsl26.ext x27
    replace hs38 := hs38.ext x27
    replace hbc := hbc.ext x27
    replace hq61 := hq61.ext x27
    refine Rg_alst rfl rfl Tryz.zeroValue58 rfl Tryz.sizeOf58 (fun _ => rfl) rfl rfl ?_
    intro b16 w29 x30 hge16 hb16
    have hlt16 := hb16.lt
    change Box _ _ _ (encSV _) at hb16
    have z31 := Bel.size x30
    replace hX := Bel.ex hX x30
    replace hT := hT.ext x30
    replace hbk21 := hbk21.ext x30
    replace hms21 := hms21.ext x30
    replace hh1 := hh1.ext x30
    replace hh2 := hh2.ext x30
    replace hsl26 := hsl26.ext x30
    replace hs38 := hs38.ext x30
    replace hbc := hbc.ext x30
    replace hq61 := hq61.ext x30
    replace hq62 := hq62.ext x30
    refine Rg_nil ?_
    refine W_seq ?_
    apply W_draw (β := False) [peq _, peq _, (fun v w => ∃ a c, v = .slice a (normS (allG m21 (closW oo few))).length c ∧ Sl encP 3 (Lt w.heap.size) w a c (normS (allG m21 (closW oo few)))), peq _, peq _, (fun v w => ∃ a c, v = .slice a (normS (allG (lessL m21 (redL (impLk L26) m21 m21)) (closW oo few))).length c ∧ Sl encP 3 (Lt w.heap.size) w a c (normS (allG (lessL m21 (redL (impLk L26) m21 m21)) (closW oo few)))), peq _, peq _, peq _, peq _, (fun v w => ∃ a c, v = .slice a 0 c), peq _, peq _, peq _, peq _] 15 mixed (by kernel_rfl) rfl ⟨peq_stable _, peq_stable _, ((fun _ _ _ ⟨a, c, h1, h2⟩ x => ⟨a, c, h1, (h2.ext x).top⟩)), peq_stable _, peq_stable _, ((fun _ _ _ ⟨a, c, h1, h2⟩ x => ⟨a, c, h1, (h2.ext x).top⟩)), peq_stable _, peq_stable _, peq_stable _, peq_stable _, ((fun _ _ _ h _ => h)), peq_stable _, peq_stable _, peq_stable _, peq_stable _, trivial⟩ ?ob17 ?fin17
    case ob17 =>
      refine OblL_cons (fun w32 x33 => ?_) ?_
      · skip
        have z34 := Bel.size x33
        refine bindP_nil ?_
        exact OpS_v rfl (o_moveh (v := .pointer (some ⟨p21, 0, none⟩)) rfl)
      refine OblL_cons (fun w35 x36 => ?_) ?_
      · skip
        have z37 := Bel.size x36
        have hb16 := hb16.ext x36
        refine bindP_nil ?_
        exact OpS_v rfl (o_loadS Tryz.isAgg58 Tryz.sizeOf58 rfl hb16.at rfl)
      refine OblL_cons (fun w38 x39 => ?_) ?_
      · skip
        have z40 := Bel.size x39
        have hbk21 := hbk21.ext x39
        have hq62 := hq62.ext x39
        refine bindP_eq ?_
        refine bindP_eq ?_
        refine bindP_nil ?_
        exact OpS_mem rfl (o_call2 Tryz.call35 rfl rfl) ((gall_ok _ _ _ hbk21.is hm21 ⟨a62, c62, closW oo few⟩ _ hq62).mono (fun v w2 ⟨h, x⟩ => ⟨x, by obtain ⟨a, c, e, hs⟩ := h.sl encP_ok; exact ⟨a, c, e, hs.top⟩⟩))
      refine OblL_cons (fun w41 x42 => ?_) ?_
      · skip
        have z43 := Bel.size x42
        refine bindP_nil ?_
        exact OpS_v rfl (o_moveh (v := .pointer _) rfl)
      refine OblL_cons (fun w44 x45 => ?_) ?_
      · skip
        have z46 := Bel.size x45
        have hb16 := hb16.ext x45
        refine bindP_nil ?_
        exact OpS_v rfl (o_loadS Tryz.isAgg58 Tryz.sizeOf58 rfl hb16.at rfl)
      refine OblL_cons (fun w47 x48 => ?_) ?_
      · skip
        have z49 := Bel.size x48
        have hbc := hbc.ext x48
        have hq62 := hq62.ext x48
        refine bindP_eq ?_
        refine bindP_eq ?_
        refine bindP_mem (fun v65 hv65 => ?_)
        obtain ⟨a65, c65, rfl, hs65⟩ := hv65
        refine bindP_nil ?_
        exact OpS_mem rfl (o_call2 Tryz.call35 rfl rfl) ((gall_ok _ _ _ hbc (hm21.less _) ⟨a62, c62, closW oo few⟩ _ hq62).mono (fun v w2 ⟨h, x⟩ => ⟨x, by obtain ⟨a, c, e, hs⟩ := h.sl encP_ok; exact ⟨a, c, e, hs.top⟩⟩))
      refine OblL_cons (fun w50 x51 => ?_) ?_
      · skip
        have z52 := Bel.size x51
        refine bindP_mem (fun v65 hv65 => ?_)
        obtain ⟨a65, c65, rfl, hs65⟩ := hv65
        refine bindP_mem (fun v68 hv68 => ?_)
        obtain ⟨a68, c68, rfl, hs68⟩ := hv68
        refine bindP_mem (fun v68 hv68 => ?_)
        obtain ⟨a68, c68, rfl, hs68⟩ := hv68
        refine bindP_nil ?_
        exact OpS_call rfl (o_call2 Tryz.call40 rfl rfl) (show Ok _ _ _ _ (fun v w' => v = .bool (normS (normS (allG m21 (closW oo few))) == normS (normS (allG (lessL m21 (redL (impLk L26) m21 m21)) (closW oo few)))) ∧ Ext False _ w') from psame_ok _ _ _ hs65.trd (by have := allG_len2 hm21 (closW oo few); omega) (normS_ok (allG_ok hm21)) _ _ hs68.trd (by have := allG_len2 (hm21.less (redL (impLk L26) m21 m21)) (closW oo few); omega) (normS_ok (allG_ok (hm21.less (redL (impLk L26) m21 m21)))))
      refine OblL_cons (fun w53 x54 => ?_) ?_
      · skip
        have z55 := Bel.size x54
        refine bindP_eq ?_
        refine bindP_eq ?_
        refine bindP_nil ?_
        exact OpS_v rfl (o_moveh (v := .bool _) rfl)
      refine OblL_cons (fun w56 x57 => ?_) ?_
      · skip
        have z58 := Bel.size x57
        refine bindP_eq ?_
        refine bindP_nil ?_
        refine OpS_on 7 70 rfl (congrArg Value.bool (by rw [less_all (ImpOk.ofL hlk26) hm21 (s := closW oo few) (clos_closed hh3 few)]; exact beq_self_eq_true _)) ?_
        exact OpS_v rfl (o_moveh (v := .pointer _) rfl)
      refine OblL_cons (fun w59 x60 => ?_) ?_
      · skip
        have z61 := Bel.size x60
        refine bindP_eq ?_
        refine bindP_nil ?_
        refine OpS_on 7 70 rfl (congrArg Value.bool (by rw [less_all (ImpOk.ofL hlk26) hm21 (s := closW oo few) (clos_closed hh3 few)]; exact beq_self_eq_true _)) ?_
        exact OpS_v rfl (o_moveh (v := .pointer (some ⟨ph, 0, none⟩)) rfl)
      refine OblL_cons (fun w62 x63 => ?_) ?_
      · skip
        have z64 := Bel.size x63
        have hh1 := hh1.ext x63
        have hh2 := hh2.ext x63
        have hbc := hbc.ext x63
        refine bindP_eq ?_
        refine bindP_eq ?_
        refine bindP_eq ?_
        refine bindP_eq ?_
        refine bindP_nil ?_
        refine OpS_on 7 70 rfl (congrArg Value.bool (by rw [less_all (ImpOk.ofL hlk26) hm21 (s := closW oo few) (clos_closed hh3 few)]; exact beq_self_eq_true _)) ?_
        exact OpS_mem rfl (o_call2 Tryz.call16 rfl rfl) ((gred_ok _ _ _ hbc (hm21.less _) _ (fun _ => True) _ (Or.inl ⟨L26, ph, po, oo, rfl, trivial, hh1, hh2.mono (fun _ _ _ => trivial), hh3, rfl⟩)).mono (fun v w2 ⟨h, x⟩ => ⟨x, by rw [less_none] at h; obtain ⟨a, c, e, _⟩ := h.sl encE_ok; exact ⟨a, c, e⟩⟩))
      refine OblL_cons (fun w65 x66 => ?_) ?_
      · skip
        have z67 := Bel.size x66
        refine bindP_mem (fun v73 hv73 => ?_)
        obtain ⟨a73, c73, rfl⟩ := hv73
        refine bindP_eq ?_
        refine bindP_nil ?_
        refine OpS_on 7 70 rfl (congrArg Value.bool (by rw [less_all (ImpOk.ofL hlk26) hm21 (s := closW oo few) (clos_closed hh3 few)]; exact beq_self_eq_true _)) ?_
        exact OpS_v rfl (o_llen Tryz.underlying34 rfl)
      refine OblL_cons (fun w68 x69 => ?_) ?_
      · skip
        have z70 := Bel.size x69
        refine bindP_eq ?_
        refine bindP_eq ?_
        refine bindP_nil ?_
        refine OpS_on 7 70 rfl (congrArg Value.bool (by rw [less_all (ImpOk.ofL hlk26) hm21 (s := closW oo few) (clos_closed hh3 few)]; exact beq_self_eq_true _)) ?_
        exact OpS_v rfl (o_eql rfl rfl)
      refine OblL_cons (fun w71 x72 => ?_) ?_
      · skip
        have z73 := Bel.size x72
        refine bindP_eq ?_
        refine bindP_eq ?_
        refine bindP_nil ?_
        exact OpS_v rfl (o_pickT (v := .bool _) (congrArg Value.bool (by rw [less_all (ImpOk.ofL hlk26) hm21 (s := closW oo few) (clos_closed hh3 few)]; exact beq_self_eq_true _)) rfl)
      refine OblL_cons (fun w74 x75 => ?_) ?_
      · skip
        have z76 := Bel.size x75
        refine bindP_eq ?_
        refine bindP_mem (fun v73 hv73 => ?_)
        obtain ⟨a73, c73, rfl⟩ := hv73
        refine bindP_eq ?_
        refine bindP_eq ?_
        refine bindP_mem (fun v65 hv65 => ?_)
        obtain ⟨a65, c65, rfl, hs65⟩ := hv65
        refine bindP_eq ?_
        refine bindP_eq ?_
        refine bindP_mem (fun v68 hv68 => ?_)
        obtain ⟨a68, c68, rfl, hs68⟩ := hv68
        refine bindP_eq ?_
        refine bindP_eq ?_
        refine bindP_eq ?_
        refine bindP_eq ?_
        refine bindP_mem (fun v73 hv73 => ?_)
        obtain ⟨a73, c73, rfl⟩ := hv73
        refine bindP_eq ?_
        refine bindP_eq ?_
        refine bindP_eq ?_
        refine bindP_nil ?_
        exact OpS_v rfl (o_assignh (v := .bool _) rfl)
      exact OblL_nil
    case fin17 =>
      intro w77 x78
      have z79 := Bel.size x78
      replace hX := Bel.ex hX x78
      replace hT := hT.ext x78
      replace hbk21 := hbk21.ext x78
      replace hms21 := hms21.ext x78
      replace hh1 := hh1.ext x78
      replace hh2 := hh2.ext x78
      replace hsl26 := hsl26.ext x78
      replace hs38 := hs38.ext x78
      replace hbc := hbc.ext x78
      replace hq61 := hq61.ext x78
      replace hq62 := hq62.ext x78
      replace hb16 := hb16.ext x78
      refine bindP_eq ?_
      refine bindP_eq ?_
      refine bindP_mem (fun v65 hv65 => ?_)
      obtain ⟨a65, c65, rfl, hs65⟩ := hv65
      refine bindP_eq ?_
      refine bindP_eq ?_
      refine bindP_mem (fun v68 hv68 => ?_)
      obtain ⟨a68, c68, rfl, hs68⟩ := hv68
      refine bindP_eq ?_
      refine bindP_eq ?_
      refine bindP_eq ?_
      refine bindP_eq ?_
      refine bindP_mem (fun v73 hv73 => ?_)
      obtain ⟨a73, c73, rfl⟩ := hv73
      refine bindP_eq ?_
      refine bindP_eq ?_
      refine bindP_eq ?_
      refine bindP_eq ?_
      refine bindP_nil ?_
      refine Rg_nil ?_
      refine W_ret ?_
      refine ⟨_, res_tmp rfl rfl, ?_⟩
      refine ⟨congrArg Value.bool ?_, hX⟩
      all_goals (rfl)

end Go.Proofs.YtndlnfdaeipifaaGreatDoor
