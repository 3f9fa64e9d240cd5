/- Walks, printed by program: each theorem says what a function of the translation returns. -/
import Derived.Test.YtncmjgmlnnenhaaGreatDoorWsb
namespace Go.Proofs.YtncmjgmlnnenhaaGreatDoor
open Go Go.Lx Go.RowKit
set_option maxRecDepth 100000
set_option linter.unusedVariables false
set_option linter.unusedSimpArgs false
set_option linter.unnecessarySimpa false
theorem sdeactC_ok (v0 : Value) (m : List RS) (w : World) (h : BkIs w v0 m) (hm : OkM m) (n r : Int) (hn : -1000 ≤ n ∧ n ≤ 1000) (hr : I64 r) {m' : List RS} (he : setR m n r false = (m', 0)) : Ok Tryz.prog 15 #[v0, .int .i64 n, .int .i64 r] w fun v w' => (∃ p, v = .tuple #[p, .int .i64 0] ∧ BkIs w' p m') ∧ Ext False w w' := by
  refine Ok.mono (sdeact_ok v0 m w h hm n r hn hr) ?_
  rintro _ w' ⟨⟨p, rfl, hp⟩, x⟩
  rw [he] at hp ⊢
  exact ⟨⟨p, rfl, hp.1 rfl⟩, x⟩
theorem law_SessionKeeps (w : World) (hT : Tb w) (v0 : Value) (l : List SOp) (hs : Rd encOp 4 (Lt w.heap.size) w v0 l) (hol : ∀ o ∈ l, I64 o.r) (o : SOp) (hor : I64 o.r) : Ok Tryz.prog 3 #[v0, .agg (encOp o).toArray] w fun v w' => v = .bool true ∧ Ext False w w' := by
  obtain ⟨a, c, rfl, hs⟩ := hs
  have hlen := hs.len
  refine Ok_of_W 121 Tryz.func3 rfl rfl rfl ?_
  have hX : Ext False w w := Bel.refl _ _
  refine W_seq ?_
  refine W_region ?_
  refine Rg_newB rfl (o_box (v := .agg _) rfl) ?_
  intro b3 w1 x2 hge3 hb3
  have hlt3 := hb3.lt
  change Box _ _ _ (encOp _) at hb3
  have z3 := Bel.size x2
  replace hX := Bel.ex hX x2
  replace hT := hT.ext x2
  replace hs := hs.ext x2
  refine Rg_run rfl o_assignc ?_
  refine Rg_nil ?_
  refine W_seq ?_
  refine W_seq ?_
  refine W_region ?_
  refine Rg_enter rfl (o_call0 Tryz.call7) (Ok.mono (awake_ok _ hT) ?_)
  rintro _ w4 ⟨rfl, x5⟩
  have z6 := Bel.size x5
  replace hX := Bel.ex hX x5
  replace hT := hT.ext x5
  replace hs := hs.ext x5
  replace hb3 := hb3.ext x5
  refine Rg_run rfl (o_not rfl) ?_
  refine Rg_nil ?_
  refine W_cond_false rfl ?_
  refine W_skip ?_
  refine W_seq ?_
  refine W_region ?_
  refine Rg_run rfl (o_moveh (v := .slice _ _ _) rfl) ?_
  refine Rg_enter rfl (o_call1 Tryz.call8 rfl) (Ok.mono (lplay_ok _ _ _ _ _ hs hol) ?_)
  rintro _ w7 ⟨⟨p21, q21, m21, rfl, hm21, hbk21, hrq21⟩, x8⟩
  have z9 := Bel.size x8
  replace hX := Bel.ex hX x8
  replace hT := hT.ext x8
  replace hs := hs.ext x8
  replace hb3 := hb3.ext x8
  refine Rg_run rfl (o_moveh (v := .tuple _) rfl) ?_
  refine Rg_run rfl (o_extract rfl rfl) ?_
  refine Rg_run rfl (o_extract rfl rfl) ?_
  refine Rg_run rfl (o_assignh (v := p21) rfl) ?_
  refine Rg_run rfl (o_assignh (v := q21) rfl) ?_
  refine Rg_nil ?_
  refine W_seq ?_
  refine W_seq ?_
  refine W_region ?_
  obtain ⟨pb, b, hpe, hqpb, hmm⟩ := hbk21
  subst hpe
  subst hmm
  refine Rg_run rfl (o_moveh (v := .pointer (some ⟨pb, 0, none⟩)) rfl) ?_
  refine Rg_run rfl (o_peq Tryz.underlying26 rfl rfl) ?_
  refine Rg_nil ?_
  refine W_cond_false rfl ?_
  refine W_skip ?_
  refine W_seq ?_
  refine W_region ?_
  refine Rg_run rfl (o_moveh (v := .pointer (some ⟨pb, 0, none⟩)) rfl) ?_
  refine Rg_enter rfl (o_call1 Tryz.call9 rfl) (Ok.mono (sbytes_ok _ _ _ hqpb.is hm21) ?_)
  rintro v27 w10 ⟨hown27, x11⟩
  have z12 := Bel.size x11
  replace hX := Bel.ex hX x11
  replace hT := hT.ext x11
  replace hs := hs.ext x11
  replace hb3 := hb3.ext x11
  replace hrq21 := (hrq21.ext x11).top
  replace hqpb := hqpb.ext x11
  refine Rg_run rfl (o_assignh (v := v27) rfl) ?_
  refine Rg_nil ?_
  refine W_seq ?_
  refine W_seq ?_
  refine W_region ?_
  refine Rg_run rfl (o_moveh (v := .pointer (some ⟨pb, 0, none⟩)) rfl) ?_
  refine Rg_enter rfl (o_call1 Tryz.call10 rfl) (Ok.mono (slist_ok _ _ _ hqpb.is hm21) ?_)
  rintro v29 w13 ⟨⟨l29, hown29, hws29, hl29⟩, x14⟩
  have z15 := Bel.size x14
  replace hX := Bel.ex hX x14
  replace hT := hT.ext x14
  replace hs := hs.ext x14
  replace hb3 := hb3.ext x14
  replace hrq21 := (hrq21.ext x14).top
  replace hqpb := hqpb.ext x14
  replace hown27 := hown27.ext x14
  replace hown29 := hown29.mono (D' := fun g => w.heap.size ≤ g) (fun g h1 h2 => by omega)
  have hll29 := congrArg List.length hl29
  rw [List.length_map] at hll29
  refine Rg_run rfl (o_llenO Tryz.underlying32 rfl hown29) ?_
  refine Rg_run rfl o_movec ?_
  refine Rg_nil ?_
  refine W_block ?_
  refine W_for (α := Nat) [(8, 8), (31, 39)] (fun k => [(31, .int .i64 (k : Int))]) (fun k w' => (k ≤ l29.length) ∧ Bel False (fun g => w13.heap.size ≤ g) w13 w') (fun k => l29.length - k) 0 ⟨rfl, trivial⟩ ⟨Nat.zero_le _, Bel.refl _ _⟩ ?_
  rintro k fb18 w17 ⟨hk, hXL16⟩
  have z19 := Bel.size hXL16
  replace hX := Bel.out hX hXL16 (fun g h1 h2 => by first | exact h2 | omega)
  replace hT := hT.keep hXL16 (fun h => by omega)
  replace hs := hs.keep hXL16 (fun g h1 h2 h3 => by omega)
  replace hb3 := hb3.keep hXL16 (fun h => by omega)
  replace hqpb := hqpb.keep hXL16 (fun g h1 h2 h3 => by omega)
  replace hown27 := hown27.keepD hXL16 (fun g h1 h2 h3 => by omega)
  refine W_seq ?_
  refine W_region ?_
  refine Rg_run rfl (o_lss rfl rfl) ?_
  refine Rg_nil ?_
  refine W_seq ?_
  refine W_cond rfl (fun hc3 => ?_) (fun hc3 => ?_)
  · skip
    replace hc3 := of_decide_eq_true hc3
    refine W_skip ?_
    refine W_seq ?_
    refine W_block ?_
    refine W_seq ?_
    refine W_region ?_
    refine Rg_run rfl (o_moveh (v := .int _ _) rfl) ?_
    refine Rg_run rfl (o_assignh (v := .int _ _) rfl) ?_
    refine Rg_nil ?_
    refine W_region ?_
    refine Rg_run rfl (o_moveh (v := .pointer (some ⟨pb, 0, none⟩)) rfl) ?_
    refine Rg_enter rfl (o_call1 Tryz.call10 rfl) (Ok.mono (slist_ok _ _ _ hqpb.is hm21) ?_)
    rintro v35 w20 ⟨⟨l35, hown35, hws35, hl35⟩, x21⟩
    have z22 := Bel.size x21
    replace hX := Bel.ex hX x21
    replace hXL16 := Bel.ex hXL16 x21
    replace hown35 := hown35.mono (D' := fun g => w13.heap.size ≤ g) (fun g h1 h2 => by omega)
    have hll35 := congrArg List.length hl35
    rw [List.length_map] at hll35
    obtain ⟨a35, c35, hv35, -⟩ := hown35.sl encSe_ok
    subst hv35
    refine Rg_run rfl (o_moveh (v := .int _ _) rfl) ?_
    refine Rg_run rfl (o_iaO (i := k) Tryz.underlying32 Tryz.sizeOf38 hown35 rfl rfl (by omega)) ?_
    refine Rg_run rfl (o_faE Tryz.underlying38 rfl Tryz.sizeOf3 (hown35.slA encSe_ok) rfl (show l35[k]? = some (l35.getD k sez) from getE sez (by omega))) ?_
    refine Rg_elstF (i := k) (j := 1) (⟨(l35.getD k sez).n, 250, (l35.getD k sez).a, (l35.getD k sez).c, (l35.getD k sez).x⟩) ((l35.getD k sez)) rfl encSe_ok Tryz.sizeOf3 rfl rfl rfl rfl hown35 (show l35[k]? = some (l35.getD k sez) from getE sez (by omega)) rfl (by decide) ?_
    intro w23 x24 hown35
    have z25 := Bel.size x24
    replace hX := Bel.out hX x24 (fun g h1 h2 => by first | exact h2 | omega)
    replace hXL16 := Bel.out hXL16 x24 (fun g h1 h2 => by first | exact h2 | omega)
    refine Rg_nil ?_
    refine W_region ?_
    refine Rg_run rfl (o_add rfl rfl (by have := hm21.len; unfold I64; omega)) ?_
    refine Rg_run rfl (o_moveh (v := .int _ _) rfl) ?_
    refine Rg_nil ?_
    refine ⟨k + 1, ⟨?_, trivial⟩, ?_, ⟨?_, hXL16⟩, ?_⟩
    · first | rfl | (go_num) | (exact congrArg _ (by omega))
    · repeat (first | exact off_refl _ _ | exact off_mix | refine off_put rfl ?_ | refine off_putN ?_ | refine off_setL rfl ?_ | refine off_mix' rfl ?_)
    · show k + 1 ≤ l29.length; omega
    · omega
  · skip
    replace hc3 := of_decide_eq_false hc3
    refine W_exit ?_
    refine exAt_hit ?_
    refine W_seq ?_
    refine W_region ?_
    refine Rg_run rfl (o_moveh (v := .pointer (some ⟨pb, 0, none⟩)) rfl) ?_
    refine Rg_run rfl (o_fa Tryz.underlying24 rfl Tryz.sizeOf5 rfl) ?_
    refine Rg_run rfl (o_load1 Tryz.isAgg5 rfl (hb3.at.get 1 rfl)) ?_
    refine Rg_run rfl (o_convS Tryz.underlying5 Tryz.underlying3 rfl (wrapB _)) ?_
    refine Rg_run rfl (o_add rfl rfl (by have := o.s.toNat_lt; unfold I64; omega)) ?_
    refine Rg_enter rfl (o_call2 Tryz.call11 rfl rfl) (Ok.mono (sopen_ok _ _ _ hqpb.is hm21 (1 + (o.s.toNat : Int))) ?_)
    rintro _ w26 ⟨⟨p46, rfl, hp46⟩, x27⟩
    have z28 := Bel.size x27
    replace hX := Bel.ex hX x27
    replace hT := hT.ext x27
    replace hs := hs.ext x27
    replace hb3 := hb3.ext x27
    replace hqpb := hqpb.ext x27
    replace hown27 := hown27.ext x27
    refine Rg_run rfl (o_moveh (v := .tuple _) rfl) ?_
    refine Rg_run rfl (o_extract rfl rfl) ?_
    refine Rg_run rfl (o_extract rfl rfl) ?_
    refine Rg_run rfl (o_extract rfl rfl) ?_
    refine Rg_run rfl (o_assignh (v := p46) rfl) ?_
    refine Rg_run rfl (o_assignh (v := .int _ _) rfl) ?_
    refine Rg_run rfl (o_assignh (v := .int _ _) rfl) ?_
    refine Rg_nil ?_
    refine W_seq ?_
    refine W_seq ?_
    refine W_region ?_
    refine Rg_run rfl (o_moveh (v := .int _ _) rfl) ?_
    refine Rg_run rfl (o_neq rfl rfl) ?_
    refine Rg_nil ?_
    refine W_cond rfl (fun hc4 => ?_) (fun hc4 => ?_)
    · skip
      skip
      refine W_seq ?_
      refine W_region ?_
      have hnl : ¬ b.m.length < 64 := fun h => by
        rw [openR, if_neg (by have := o.s.toNat_lt; omega), if_neg (by omega)] at hc4
        simp at hc4
      rw [openR_full (by have := o.s.toNat_lt; omega) hnl]
      have hlm := hm21.len
      refine Rg_run rfl (o_moveh (v := .int _ _) rfl) ?_
      refine Rg_run rfl (o_eql rfl rfl) ?_
      refine Rg_run rfl (o_moveh (v := .bool _) rfl) ?_
      refine Rg_on 2 54 rfl rfl ?_
      refine Rg_run rfl (o_moveh (v := .pointer (some ⟨pb, 0, none⟩)) rfl) ?_
      refine Rg_on 2 54 rfl rfl ?_
      refine Rg_enter rfl (o_call1 Tryz.call12 rfl) (Ok.mono (slen_ok _ _ _ hqpb.is hm21) ?_)
      rintro _ w29 ⟨rfl, x30⟩
      have z31 := Bel.size x30
      replace hX := Bel.ex hX x30
      replace hT := hT.ext x30
      replace hs := hs.ext x30
      replace hb3 := hb3.ext x30
      replace hqpb := hqpb.ext x30
      replace hown27 := hown27.ext x30
      replace hp46 := hp46.ext x30
      refine Rg_on 2 54 rfl rfl ?_
      refine Rg_run rfl (o_eql rfl rfl) ?_
      refine Rg_run rfl (o_pickT (v := .bool _) rfl rfl) ?_
      refine Rg_run rfl (o_assignh (v := .bool _) rfl) ?_
      refine Rg_nil ?_
      refine W_ret ?_
      refine ⟨_, res_tmp rfl rfl, ?_⟩
      refine ⟨congrArg Value.bool ?_, hX⟩
      all_goals
        have e64 : b.m.length = 64 := by omega
        rw [e64]; rfl
    · skip
      skip
      refine W_skip ?_
      refine W_seq ?_
      refine W_region ?_
      have hl64 : b.m.length < 64 := by
        refine Classical.byContradiction fun h => ?_
        rw [openR_full (by have := o.s.toNat_lt; omega) h] at hc4
        simp at hc4
      have hr31 := a31_rng o.r
      obtain ⟨mc, mx, n, e1, hmc, hmx, hn, e2, e3, e4, hne1, hne2⟩ := keepsR hm21 (u := (1 + (o.s.toNat : Int))) (by have := o.s.toNat_lt; omega) hl64 (r := (1 + a31 o.r)) (by omega)
      rw [e1] at hp46 ⊢
      have hbkc := hp46.1 rfl
      change BkIs _ _ mc at hbkc
      refine Rg_run rfl (o_moveh (v := p46) rfl) ?_
      refine Rg_run rfl (o_moveh (v := .int .i64 n) rfl) ?_
      refine Rg_enter rfl (o_call2 Tryz.call13 rfl rfl) (Ok.mono (scloseC_ok _ mc _ hbkc hmc n hn e2) ?_)
      rintro _ w32 ⟨⟨p62, rfl, hbk62⟩, x33⟩
      have z34 := Bel.size x33
      replace hX := Bel.ex hX x33
      replace hT := hT.ext x33
      replace hs := hs.ext x33
      replace hb3 := hb3.ext x33
      replace hqpb := hqpb.ext x33
      replace hown27 := hown27.ext x33
      replace hbkc := hbkc.ext x33
      refine Rg_run rfl (o_moveh (v := .tuple _) rfl) ?_
      refine Rg_run rfl (o_extract rfl rfl) ?_
      refine Rg_run rfl (o_extract rfl rfl) ?_
      refine Rg_run rfl (o_assignh (v := p62) rfl) ?_
      refine Rg_run rfl (o_assignh (v := .int _ _) rfl) ?_
      refine Rg_nil ?_
      refine W_seq ?_
      refine W_region ?_
      refine Rg_run rfl (o_moveh (v := p46) rfl) ?_
      refine Rg_run rfl (o_moveh (v := .int .i64 n) rfl) ?_
      refine Rg_run rfl (o_fa Tryz.underlying24 rfl Tryz.sizeOf3 rfl) ?_
      refine Rg_run rfl (o_load1 Tryz.isAgg3 rfl (hb3.at.get 3 rfl)) ?_
      refine Rg_run rfl (o_and31 rfl rfl) ?_
      refine Rg_run rfl (o_add rfl rfl (by unfold I64; omega)) ?_
      refine Rg_enter rfl (o_call3 Tryz.call14 rfl rfl rfl) (Ok.mono (sactC_ok _ mc _ hbkc hmc n (1 + a31 o.r) hn (by unfold I64; omega) e3) ?_)
      rintro _ w35 ⟨⟨p72, rfl, hbk72⟩, x36⟩
      have z37 := Bel.size x36
      replace hX := Bel.ex hX x36
      replace hT := hT.ext x36
      replace hs := hs.ext x36
      replace hb3 := hb3.ext x36
      replace hqpb := hqpb.ext x36
      replace hown27 := hown27.ext x36
      replace hbkc := hbkc.ext x36
      replace hbk62 := hbk62.ext x36
      refine Rg_run rfl (o_moveh (v := .tuple _) rfl) ?_
      refine Rg_run rfl (o_extract rfl rfl) ?_
      refine Rg_run rfl (o_extract rfl rfl) ?_
      refine Rg_run rfl (o_assignh (v := p72) rfl) ?_
      refine Rg_run rfl (o_assignh (v := .int _ _) rfl) ?_
      refine Rg_nil ?_
      refine W_seq ?_
      refine W_seq ?_
      refine W_region ?_
      refine Rg_run rfl (o_moveh (v := .int _ _) rfl) ?_
      refine Rg_run rfl (o_neq rfl rfl) ?_
      refine Rg_run rfl (o_moveh (v := .bool _) rfl) ?_
      refine Rg_on 2 77 rfl rfl ?_
      refine Rg_run rfl (o_moveh (v := .int _ _) rfl) ?_
      refine Rg_on 2 77 rfl rfl ?_
      refine Rg_run rfl (o_neq rfl rfl) ?_
      refine Rg_run rfl (o_pickF (v := .bool _) rfl rfl) ?_
      refine Rg_nil ?_
      refine W_cond_false rfl ?_
      refine W_skip ?_
      refine W_seq ?_
      refine W_region ?_
      refine Rg_run rfl (o_moveh (v := p72) rfl) ?_
      refine Rg_run rfl (o_moveh (v := .int .i64 n) rfl) ?_
      refine Rg_run rfl (o_fa Tryz.underlying24 rfl Tryz.sizeOf3 rfl) ?_
      refine Rg_run rfl (o_load1 Tryz.isAgg3 rfl (hb3.at.get 3 rfl)) ?_
      refine Rg_run rfl (o_and31 rfl rfl) ?_
      refine Rg_run rfl (o_add rfl rfl (by unfold I64; omega)) ?_
      refine Rg_enter rfl (o_call3 Tryz.call15 rfl rfl rfl) (Ok.mono (sdeactC_ok _ mx _ hbk72 hmx n (1 + a31 o.r) hn (by unfold I64; omega) e4) ?_)
      rintro _ w38 ⟨⟨p88, rfl, hbk88⟩, x39⟩
      have z40 := Bel.size x39
      replace hX := Bel.ex hX x39
      replace hT := hT.ext x39
      replace hs := hs.ext x39
      replace hb3 := hb3.ext x39
      replace hqpb := hqpb.ext x39
      replace hown27 := hown27.ext x39
      replace hbkc := hbkc.ext x39
      replace hbk62 := hbk62.ext x39
      replace hbk72 := hbk72.ext x39
      refine Rg_run rfl (o_moveh (v := .tuple _) rfl) ?_
      refine Rg_run rfl (o_extract rfl rfl) ?_
      refine Rg_run rfl (o_extract rfl rfl) ?_
      refine Rg_run rfl (o_assignh (v := p88) rfl) ?_
      refine Rg_run rfl (o_assignh (v := .int _ _) rfl) ?_
      refine Rg_nil ?_
      refine W_seq ?_
      refine W_region ?_
      refine Rg_run rfl (o_moveh (v := .int _ _) rfl) ?_
      refine Rg_run rfl (o_eql rfl rfl) ?_
      refine Rg_run rfl (o_moveh (v := .bool _) rfl) ?_
      refine Rg_on 2 93 rfl rfl ?_
      refine Rg_run rfl (o_moveh (v := p62) rfl) ?_
      refine Rg_on 2 93 rfl rfl ?_
      refine Rg_run rfl (o_moveh (v := .pointer (some ⟨pb, 0, none⟩)) rfl) ?_
      refine Rg_on 2 93 rfl rfl ?_
      refine Rg_enter rfl (o_call2 Tryz.call16 rfl rfl) (Ok.mono (seqB_ok _ _ _ _ _ hbk62 hqpb.is) ?_)
      rintro _ w41 ⟨rfl, x42⟩
      have z43 := Bel.size x42
      replace hX := Bel.ex hX x42
      replace hT := hT.ext x42
      replace hs := hs.ext x42
      replace hb3 := hb3.ext x42
      replace hqpb := hqpb.ext x42
      replace hown27 := hown27.ext x42
      replace hbkc := hbkc.ext x42
      replace hbk62 := hbk62.ext x42
      replace hbk72 := hbk72.ext x42
      replace hbk88 := hbk88.ext x42
      refine Rg_run rfl (o_pickT (v := .bool _) rfl rfl) ?_
      refine Rg_run rfl (o_moveh (v := .bool _) rfl) ?_
      refine Rg_on 7 98 rfl (congrArg Value.bool (beq_self_eq_true _)) ?_
      refine Rg_run rfl (o_moveh (v := p88) rfl) ?_
      refine Rg_on 7 98 rfl (congrArg Value.bool (beq_self_eq_true _)) ?_
      refine Rg_run rfl (o_moveh (v := p46) rfl) ?_
      refine Rg_on 7 98 rfl (congrArg Value.bool (beq_self_eq_true _)) ?_
      refine Rg_enter rfl (o_call2 Tryz.call16 rfl rfl) (Ok.mono (seqB_ok _ _ _ _ _ hbk88 hbkc) ?_)
      rintro _ w44 ⟨rfl, x45⟩
      have z46 := Bel.size x45
      replace hX := Bel.ex hX x45
      replace hT := hT.ext x45
      replace hs := hs.ext x45
      replace hb3 := hb3.ext x45
      replace hqpb := hqpb.ext x45
      replace hown27 := hown27.ext x45
      replace hbkc := hbkc.ext x45
      replace hbk62 := hbk62.ext x45
      replace hbk72 := hbk72.ext x45
      replace hbk88 := hbk88.ext x45
      refine Rg_run rfl (o_pickT (v := .bool _) (congrArg Value.bool (beq_self_eq_true _)) rfl) ?_
      refine Rg_run rfl (o_moveh (v := .bool _) rfl) ?_
      refine Rg_on 12 103 rfl (congrArg Value.bool (beq_self_eq_true _)) ?_
      refine Rg_run rfl (o_moveh (v := p72) rfl) ?_
      refine Rg_on 12 103 rfl (congrArg Value.bool (beq_self_eq_true _)) ?_
      refine Rg_run rfl (o_moveh (v := p46) rfl) ?_
      refine Rg_on 12 103 rfl (congrArg Value.bool (beq_self_eq_true _)) ?_
      refine Rg_enter rfl (o_call2 Tryz.call16 rfl rfl) (Ok.mono (seqB_ok _ _ _ _ _ hbk72 hbkc) ?_)
      rintro _ w47 ⟨rfl, x48⟩
      have z49 := Bel.size x48
      replace hX := Bel.ex hX x48
      replace hT := hT.ext x48
      replace hs := hs.ext x48
      replace hb3 := hb3.ext x48
      replace hqpb := hqpb.ext x48
      replace hown27 := hown27.ext x48
      replace hbkc := hbkc.ext x48
      replace hbk62 := hbk62.ext x48
      replace hbk72 := hbk72.ext x48
      replace hbk88 := hbk88.ext x48
      refine Rg_on 12 103 rfl (congrArg Value.bool (beq_self_eq_true _)) ?_
      refine Rg_run rfl (o_not rfl) ?_
      refine Rg_run rfl (o_pickT (v := .bool _) (congrArg Value.bool (beq_self_eq_true _)) rfl) ?_
      refine Rg_run rfl (o_moveh (v := .bool _) rfl) ?_
      refine Rg_on 18 109 rfl (congrArg Value.bool (by rw [beq_eq_false_iff_ne.2 hne1]; rfl)) ?_
      refine Rg_run rfl (o_moveh (v := p46) rfl) ?_
      refine Rg_on 18 109 rfl (congrArg Value.bool (by rw [beq_eq_false_iff_ne.2 hne1]; rfl)) ?_
      refine Rg_run rfl (o_moveh (v := .pointer (some ⟨pb, 0, none⟩)) rfl) ?_
      refine Rg_on 18 109 rfl (congrArg Value.bool (by rw [beq_eq_false_iff_ne.2 hne1]; rfl)) ?_
      refine Rg_enter rfl (o_call2 Tryz.call16 rfl rfl) (Ok.mono (seqB_ok _ _ _ _ _ hbkc hqpb.is) ?_)
      rintro _ w50 ⟨rfl, x51⟩
      have z52 := Bel.size x51
      replace hX := Bel.ex hX x51
      replace hT := hT.ext x51
      replace hs := hs.ext x51
      replace hb3 := hb3.ext x51
      replace hqpb := hqpb.ext x51
      replace hown27 := hown27.ext x51
      replace hbkc := hbkc.ext x51
      replace hbk62 := hbk62.ext x51
      replace hbk72 := hbk72.ext x51
      replace hbk88 := hbk88.ext x51
      refine Rg_on 18 109 rfl (congrArg Value.bool (by rw [beq_eq_false_iff_ne.2 hne1]; rfl)) ?_
      refine Rg_run rfl (o_not rfl) ?_
      refine Rg_run rfl (o_pickT (v := .bool _) (congrArg Value.bool (by rw [beq_eq_false_iff_ne.2 hne1]; rfl)) rfl) ?_
      refine Rg_run rfl (o_moveh (v := .bool _) rfl) ?_
      refine Rg_on 24 115 rfl (congrArg Value.bool (by rw [beq_eq_false_iff_ne.2 hne2]; rfl)) ?_
      refine Rg_run rfl (o_moveh (v := .pointer (some ⟨pb, 0, none⟩)) rfl) ?_
      refine Rg_on 24 115 rfl (congrArg Value.bool (by rw [beq_eq_false_iff_ne.2 hne2]; rfl)) ?_
      refine Rg_enter rfl (o_call1 Tryz.call9 rfl) (Ok.mono (sbytes_ok _ _ _ hqpb.is hm21) ?_)
      rintro v117 w53 ⟨hown117, x54⟩
      have z55 := Bel.size x54
      replace hX := Bel.ex hX x54
      replace hT := hT.ext x54
      replace hs := hs.ext x54
      replace hb3 := hb3.ext x54
      replace hqpb := hqpb.ext x54
      replace hown27 := hown27.ext x54
      replace hbkc := hbkc.ext x54
      replace hbk62 := hbk62.ext x54
      replace hbk72 := hbk72.ext x54
      replace hbk88 := hbk88.ext x54
      replace hown117 := hown117.mono (D' := fun g => w13.heap.size ≤ g) (fun g h1 h2 => by omega)
      refine Rg_on 24 115 rfl (congrArg Value.bool (by rw [beq_eq_false_iff_ne.2 hne2]; rfl)) ?_
      refine Rg_run rfl (o_moveh (v := v27) rfl) ?_
      refine Rg_on 24 115 rfl (congrArg Value.bool (by rw [beq_eq_false_iff_ne.2 hne2]; rfl)) ?_
      refine Rg_enter rfl (o_call2 Tryz.call17 rfl rfl) (Ok.mono (r2same_ok _ _ _ _ _ _ _ (hown117.trd encB_ok) (hown27.trd encB_ok)) ?_)
      rintro _ w56 ⟨rfl, x57⟩
      have z58 := Bel.size x57
      replace hX := Bel.ex hX x57
      replace hT := hT.ext x57
      replace hs := hs.ext x57
      replace hb3 := hb3.ext x57
      replace hqpb := hqpb.ext x57
      replace hown27 := hown27.ext x57
      replace hbkc := hbkc.ext x57
      replace hbk62 := hbk62.ext x57
      replace hbk72 := hbk72.ext x57
      replace hbk88 := hbk88.ext x57
      replace hown117 := hown117.ext x57
      refine Rg_run rfl (o_pickT (v := .bool _) (congrArg Value.bool (by rw [beq_eq_false_iff_ne.2 hne2]; rfl)) rfl) ?_
      refine Rg_run rfl (o_assignh (v := .bool _) rfl) ?_
      refine Rg_nil ?_
      refine W_ret ?_
      refine ⟨_, res_tmp rfl rfl, ?_⟩
      refine ⟨congrArg Value.bool ?_, hX⟩
      all_goals (exact beq_self_eq_true _)

end Go.Proofs.YtncmjgmlnnenhaaGreatDoor
