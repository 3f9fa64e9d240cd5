/- Walks, printed by program: each theorem says what a function of the translation returns. -/
import Derived.Test.YtnhbdlllkmnpfaaDoorWtree6
import Derived.Test.YtnhbdlllkmnpfaaDoorWlaw7b
namespace Go.Proofs.YtnhbdlllkmnpfaaDoor
open Go Go.Lx Go.RowKit
set_option maxRecDepth 100000
set_option linter.unusedVariables false
set_option linter.unusedSimpArgs false
set_option linter.unnecessarySimpa false
theorem law_PathKeeps (w : World) (vl : Value) (l : List OpV) (hl : Rd encO 3 (Lt w.heap.size) w vl l) (dl : ∀ z ∈ l, Sl encB 1 (Lt w.heap.size) w z.a z.c z.path) (vm : Value) (m : List OpV) (hm : Rd encO 3 (Lt w.heap.size) w vm m) (dm : ∀ z ∈ m, Sl encB 1 (Lt w.heap.size) w z.a z.c z.path) (o : OpV) (ho : Sl encB 1 (Lt w.heap.size) w o.a o.c o.path) : Ok Tryd.prog 9 #[vl, vm, .agg (encO o).toArray] w fun v w' => v = .bool (true) ∧ Ext False w w' := by
  obtain ⟨al, cl, rfl, hl⟩ := hl; have ml := hl.len
  obtain ⟨am, cm, rfl, hm⟩ := hm; have mm := hm.len
  refine Ok_of_W 106 Tryd.func9 rfl rfl rfl ?_
  have hX : Ext False w w := Bel.refl _ _
  refine W_seq ?_
  refine W_region ?_
  refine Rg_newB rfl (o_box (v := .agg _) rfl) ?_
  intro b5 w1 x2 hge5 hb5
  have hlt5 := hb5.lt
  change Box _ _ _ (encO _) at hb5
  have z3 := Bel.size x2
  replace hX := Bel.ex hX x2
  replace dl := (fun z hz => (dl z hz).ext x2)
  replace dm := (fun z hz => (dm z hz).ext x2)
  replace ho := ho.ext x2
  replace hl := hl.ext x2
  replace hm := hm.ext x2
  refine Rg_run rfl o_assignc ?_
  refine Rg_nil ?_
  refine W_seq ?_
  refine W_seq ?_
  refine W_region ?_
  refine Rg_enter rfl (o_call0 Tryd.call13) (Ok.mono (awake_ok _) ?_)
  rintro _ w4 ⟨rfl, x5⟩
  have z6 := Bel.size x5
  replace hX := Bel.ex hX x5
  replace dl := (fun z hz => (dl z hz).ext x5)
  replace dm := (fun z hz => (dm z hz).ext x5)
  replace ho := ho.ext x5
  replace hl := hl.ext x5
  replace hm := hm.ext x5
  replace hb5 := hb5.ext x5
  refine Rg_run rfl (o_not rfl) ?_
  refine Rg_nil ?_
  refine W_cond rfl (fun hc1 => ?_) (fun hc1 => ?_)
  · skip
    refine W_seq ?_
    refine W_region ?_
    refine Rg_run rfl o_assignc ?_
    refine Rg_nil ?_
    refine W_ret ?_
    refine ⟨_, res_tmp rfl rfl, ?_⟩
    refine ⟨congrArg Value.bool ?_, hX⟩
    all_goals (cases hc1)
  · skip
    refine W_skip ?_
    refine W_seq ?_
    refine W_region ?_
    refine Rg_run rfl (o_moveh (v := .slice _ _ _) rfl) ?_
    refine Rg_enter rfl (o_call1 Tryd.call32 rfl) (Ok.mono (play_ok _ _ _ hl.trd (fun z hz => (dl z hz).top)) ?_)
    rintro _ w7 ⟨tb20, tm20, tt20, aw20, cw20, wl20, rfl, hlb20, hlm20, hbt20, hmt20, hsw20, hTr20, hln20, x8⟩
    have z9 := Bel.size x8
    replace hX := Bel.ex hX x8
    replace dl := (fun z hz => (dl z hz).ext x8)
    replace dm := (fun z hz => (dm z hz).ext x8)
    replace ho := ho.ext x8
    replace hl := hl.ext x8
    replace hm := hm.ext x8
    replace hb5 := hb5.ext x8
    refine Rg_run rfl (o_moveh (v := .tuple _) rfl) ?_
    refine Rg_run rfl (o_extract rfl rfl) ?_
    refine Rg_run rfl (o_extract rfl rfl) ?_
    refine Rg_run rfl (o_assignh (v := .pointer _) rfl) ?_
    refine Rg_run rfl (o_assignh (v := .slice _ _ _) rfl) ?_
    refine Rg_nil ?_
    refine W_seq ?_
    refine W_region ?_
    refine Rg_run rfl (o_moveh (v := .slice _ _ _) rfl) ?_
    refine Rg_enter rfl (o_call1 Tryd.call32 rfl) (Ok.mono (play_ok _ _ _ hm.trd (fun z hz => (dm z hz).top)) ?_)
    rintro _ w10 ⟨tb25, tm25, tt25, aw25, cw25, wl25, rfl, hlb25, hlm25, hbt25, hmt25, hsw25, hTr25, hln25, x11⟩
    have z12 := Bel.size x11
    replace hX := Bel.ex hX x11
    replace dl := (fun z hz => (dl z hz).ext x11)
    replace dm := (fun z hz => (dm z hz).ext x11)
    replace ho := ho.ext x11
    replace hl := hl.ext x11
    replace hm := hm.ext x11
    replace hb5 := hb5.ext x11
    replace hbt20 := hbt20.ext x11
    replace hmt20 := hmt20.ext x11
    replace hsw20 := hsw20.ext x11
    refine Rg_run rfl (o_moveh (v := .tuple _) rfl) ?_
    refine Rg_run rfl (o_extract rfl rfl) ?_
    refine Rg_run rfl (o_extract rfl rfl) ?_
    refine Rg_run rfl (o_assignh (v := .pointer _) rfl) ?_
    refine Rg_run rfl (o_assignh (v := .slice _ _ _) rfl) ?_
    refine Rg_nil ?_
    refine W_seq ?_
    refine W_seq ?_
    refine W_region ?_
    refine Rg_run rfl (o_moveh (v := .pointer _) rfl) ?_
    refine Rg_run rfl (o_peq Tryd.underlying42 rfl rfl) ?_
    refine Rg_run rfl (o_moveh (v := .bool _) rfl) ?_
    refine Rg_may 2 30 rfl rfl rfl (fun hg => (o_moveh (v := .pointer _) rfl)) ?_
    refine Rg_may 2 30 rfl rfl rfl (fun hg => (o_peq Tryd.underlying42 (gsel (u := undef) hg) rfl)) ?_
    refine Rg_run rfl (o_or (u := undef) rfl rfl) ?_
    refine Rg_nil ?_
    refine W_cond_false rfl ?_
    refine W_skip ?_
    refine W_seq ?_
    refine W_region ?_
    refine Rg_run rfl (o_moveh (v := .pointer _) rfl) ?_
    refine Rg_enter rfl (o_call2 Tryd.call34 rfl rfl) (Ok.mono (tbelow_ok _ _ _ tt20 hbt20 hmt20 (by omega) hTr20.okl _ (by decide)) ?_)
    rintro v35 w13 ⟨l35, hsr35, hown35, x14⟩
    have z15 := Bel.size x14
    replace hX := Bel.ex hX x14
    replace dl := (fun z hz => (dl z hz).ext x14)
    replace dm := (fun z hz => (dm z hz).ext x14)
    replace ho := ho.ext x14
    replace hl := hl.ext x14
    replace hm := hm.ext x14
    replace hb5 := hb5.ext x14
    replace hbt20 := hbt20.ext x14
    replace hmt20 := hmt20.ext x14
    replace hsw20 := hsw20.ext x14
    replace hbt25 := hbt25.ext x14
    replace hmt25 := hmt25.ext x14
    replace hsw25 := hsw25.ext x14
    have e35 : l35 = wl20 := below_all hTr20 hsr35; subst l35; obtain ⟨a35, c35, hv35, hs35⟩ := hown35.sl encS_ok; subst hv35
    refine Rg_run rfl (o_assignh (v := .slice _ _ _) rfl) ?_
    refine Rg_nil ?_
    refine W_seq ?_
    refine W_region ?_
    refine Rg_run rfl (o_moveh (v := .pointer _) rfl) ?_
    refine Rg_run rfl (o_loadS Tryd.isAgg55 Tryd.sizeOf55 rfl hb5.at rfl) ?_
    refine Rg_enter rfl (o_call1 Tryd.call44 rfl) (Ok.mono (of_ok _ _ ho.top) ?_)
    rintro _ w16 ⟨rfl, x17⟩
    have z18 := Bel.size x17
    replace hX := Bel.ex hX x17
    replace dl := (fun z hz => (dl z hz).ext x17)
    replace dm := (fun z hz => (dm z hz).ext x17)
    replace ho := ho.ext x17
    replace hl := hl.ext x17
    replace hm := hm.ext x17
    replace hb5 := hb5.ext x17
    replace hbt20 := hbt20.ext x17
    replace hmt20 := hmt20.ext x17
    replace hsw20 := hsw20.ext x17
    replace hbt25 := hbt25.ext x17
    replace hmt25 := hmt25.ext x17
    replace hsw25 := hsw25.ext x17
    replace hown35 := hown35.ext x17
    replace hs35 := hs35.ext x17
    refine (Decidable.em (splitOk o.of = true)).elim (fun hv => ?_) (fun hv => ?_)
    · skip
      refine Rg_enter rfl (o_call2 Tryd.call43 rfl rfl) (Ok.mono (tadd_ok _ _ _ _ hbt20 hmt20 _ (of_len _) hv) ?_)
      rintro _ w19 ⟨tb40, tm40, rfl, hgb40, hlb40, hgm40, hlm40, hne40, hbt40, hmt40, x20⟩
      replace hown35 := hown35.mono (D' := fun g => w.heap.size ≤ g ∧ ¬ (w16.heap.size ≤ g ∧ g < w19.heap.size)) (fun g h1 h2 => by omega)
      have z21 := Bel.size x20
      replace hX := Bel.ex hX x20
      replace dl := (fun z hz => (dl z hz).ext x20)
      replace dm := (fun z hz => (dm z hz).ext x20)
      replace ho := ho.ext x20
      replace hl := hl.ext x20
      replace hm := hm.ext x20
      replace hb5 := hb5.ext x20
      replace hbt20 := hbt20.ext x20
      replace hmt20 := hmt20.ext x20
      replace hsw20 := hsw20.ext x20
      replace hbt25 := hbt25.ext x20
      replace hmt25 := hmt25.ext x20
      replace hsw25 := hsw25.ext x20
      replace hown35 := hown35.ext x20
      replace hs35 := hs35.ext x20
      refine Rg_run rfl (o_moveh (v := .tuple _) rfl) ?_
      refine Rg_run rfl (o_extract rfl rfl) ?_
      refine Rg_run rfl (o_extract rfl rfl) ?_
      refine Rg_run rfl (o_assignh (v := .pointer _) rfl) ?_
      refine Rg_run rfl (o_assignh (v := .int _ _) rfl) ?_
      refine Rg_nil ?_
      refine W_seq ?_
      refine W_region ?_
      refine Rg_run rfl (o_moveh (v := .pointer _) rfl) ?_
      refine Rg_run rfl (o_loadS Tryd.isAgg55 Tryd.sizeOf55 rfl hb5.at rfl) ?_
      refine Rg_enter rfl (o_call1 Tryd.call44 rfl) (Ok.mono (of_ok _ _ ho.top) ?_)
      rintro _ w22 ⟨rfl, x23⟩
      have z24 := Bel.size x23
      replace hX := Bel.ex hX x23
      replace dl := (fun z hz => (dl z hz).ext x23)
      replace dm := (fun z hz => (dm z hz).ext x23)
      replace ho := ho.ext x23
      replace hl := hl.ext x23
      replace hm := hm.ext x23
      replace hb5 := hb5.ext x23
      replace hbt20 := hbt20.ext x23
      replace hmt20 := hmt20.ext x23
      replace hsw20 := hsw20.ext x23
      replace hbt25 := hbt25.ext x23
      replace hmt25 := hmt25.ext x23
      replace hsw25 := hsw25.ext x23
      replace hown35 := hown35.ext x23
      replace hs35 := hs35.ext x23
      replace hbt40 := hbt40.ext x23
      replace hmt40 := hmt40.ext x23
      refine Rg_enter rfl (o_call2 Tryd.call42 rfl rfl) (Ok.mono (trem_any _ _ _ tt20 hbt20 hmt20 (by omega) hTr20.okl _ (of_len _)) ?_)
      rintro _ w25 ⟨⟨u46, rfl⟩, x26⟩
      have z27 := Bel.size x26
      replace hX := Bel.ex hX x26
      replace dl := (fun z hz => (dl z hz).ext x26)
      replace dm := (fun z hz => (dm z hz).ext x26)
      replace ho := ho.ext x26
      replace hl := hl.ext x26
      replace hm := hm.ext x26
      replace hb5 := hb5.ext x26
      replace hbt20 := hbt20.ext x26
      replace hmt20 := hmt20.ext x26
      replace hsw20 := hsw20.ext x26
      replace hbt25 := hbt25.ext x26
      replace hmt25 := hmt25.ext x26
      replace hsw25 := hsw25.ext x26
      replace hown35 := hown35.ext x26
      replace hs35 := hs35.ext x26
      replace hbt40 := hbt40.ext x26
      replace hmt40 := hmt40.ext x26
      refine Rg_nil ?_
      refine W_seq ?_
      refine W_region ?_
      obtain ⟨n0, hn0⟩ : ∃ n, n = w25.heap.size := ⟨_, rfl⟩
      refine Rg_run rfl (o_moveh (v := .pointer _) rfl) ?_
      refine Rg_enter rfl (o_call2 Tryd.call34 rfl rfl) (Ok.mono (tbelow_ok _ _ _ tt20 hbt20 hmt20 (by omega) hTr20.okl _ (by decide)) ?_)
      rintro v48 w28 ⟨l48, hsr48, hown48, x29⟩
      have z30 := Bel.size x29
      replace hX := Bel.ex hX x29
      replace dl := (fun z hz => (dl z hz).ext x29)
      replace dm := (fun z hz => (dm z hz).ext x29)
      replace ho := ho.ext x29
      replace hl := hl.ext x29
      replace hm := hm.ext x29
      replace hb5 := hb5.ext x29
      replace hbt20 := hbt20.ext x29
      replace hmt20 := hmt20.ext x29
      replace hsw20 := hsw20.ext x29
      replace hbt25 := hbt25.ext x29
      replace hmt25 := hmt25.ext x29
      replace hsw25 := hsw25.ext x29
      replace hown35 := hown35.ext x29
      replace hs35 := hs35.ext x29
      replace hbt40 := hbt40.ext x29
      replace hmt40 := hmt40.ext x29
      replace hown48 := hown48.mono (D' := fun g => n0 ≤ g) (fun g h1 h2 => by omega)
      have e48 : l48 = wl20 := below_all hTr20 hsr48; subst l48; obtain ⟨a48, c48, hv48, -⟩ := hown48.sl encS_ok; subst hv48
      refine Rg_run rfl (o_assignh (v := .slice _ _ _) rfl) ?_
      refine Rg_nil ?_
      refine W_seq ?_
      refine W_seq ?_
      refine W_region ?_
      refine Rg_run rfl (o_moveh (v := .slice _ _ _) rfl) ?_
      refine Rg_run rfl (o_llen Tryd.underlying35 rfl) ?_
      refine Rg_run rfl o_movec ?_
      refine Rg_nil ?_
      refine W_block ?_
      refine W_for (α := Nat × List Str) [(15, 15), (51, 57)] (fun q => [(51, .int .i64 (q.1 : Int))]) (fun q w' => (q.1 ≤ wl20.length ∧ q.2.length = wl20.length) ∧ Bel False (fun g => n0 ≤ g) w28 w' ∧ (Own encS 1 9 (fun g => n0 ≤ g) w' (.slice a48 wl20.length c48) q.2)) (fun q => wl20.length - q.1) (0, wl20) ⟨rfl, trivial⟩ ⟨⟨Nat.zero_le _, rfl⟩, Bel.refl _ _, hown48⟩ ?_
      rintro ⟨k, ls⟩ fb33 w32 ⟨⟨hk, hls⟩, hXL31, hown48⟩
      dsimp only at *
      have z34 := Bel.size hXL31
      replace hX := Bel.out hX hXL31 (fun g h1 h2 => by first | exact h2 | omega)
      replace dl := fun z hz => (dl z hz).keep hXL31 (fun g h1 h2 h3 => by omega)
      replace dm := fun z hz => (dm z hz).keep hXL31 (fun g h1 h2 h3 => by omega)
      replace ho := ho.keep hXL31 (fun g h1 h2 h3 => by omega)
      replace hl := hl.keep hXL31 (fun g h1 h2 h3 => by omega)
      replace hm := hm.keep hXL31 (fun h => by omega)
      replace hb5 := hb5.keep hXL31 (fun h => by omega)
      replace hbt20 := hbt20.keep hXL31 (fun h => by omega)
      replace hmt20 := hmt20.keep hXL31 (fun h => by omega)
      replace hsw20 := hsw20.keep hXL31 (fun g h1 h2 h3 => by omega)
      replace hbt25 := hbt25.keep hXL31 (fun h => by omega)
      replace hmt25 := hmt25.keep hXL31 (fun h => by omega)
      replace hsw25 := hsw25.keep hXL31 (fun g h1 h2 h3 => by omega)
      replace hs35 := hs35.keep hXL31 (fun g h1 h2 h3 => by omega)
      replace hbt40 := hbt40.keep hXL31 (fun h => by omega)
      replace hmt40 := hmt40.keep hXL31 (fun h => by omega)
      refine W_seq ?_
      refine W_region ?_
      refine Rg_run rfl (o_lss rfl rfl) ?_
      refine Rg_nil ?_
      refine W_seq ?_
      refine W_cond rfl (fun hc3 => ?_) (fun hc3 => ?_)
      · skip
        replace hc3 := of_decide_eq_true hc3
        refine W_skip ?_
        refine W_seq ?_
        refine W_block ?_
        refine W_seq ?_
        refine W_region ?_
        refine Rg_run rfl (o_moveh (v := .int _ _) rfl) ?_
        refine Rg_run rfl (o_assignh (v := .int _ _) rfl) ?_
        refine Rg_nil ?_
        refine W_region ?_
        refine Rg_run rfl (o_moveh (v := .slice _ _ _) rfl) ?_
        refine Rg_run rfl (o_moveh (v := .int _ _) rfl) ?_
        refine Rg_run rfl (o_iaO Tryd.underlying35 Tryd.sizeOf9 hown48 rfl rfl (by omega)) ?_
        refine Rg_elst (u := [115, 112, 111, 105, 108, 116]) rfl encS_ok Tryd.sizeOf9 rfl rfl rfl hown48 (by omega) ?_
        intro w35 x36 hown48
        have z37 := Bel.size x36
        replace hX := Bel.out hX x36 (fun g h1 h2 => by first | exact h2 | omega)
        replace hXL31 := Bel.out hXL31 x36 (fun g h1 h2 => by first | exact h2 | omega)
        replace dl := fun z hz => (dl z hz).keep x36 (fun g h1 h2 h3 => by omega)
        replace dm := fun z hz => (dm z hz).keep x36 (fun g h1 h2 h3 => by omega)
        replace ho := ho.keep x36 (fun g h1 h2 h3 => by omega)
        replace hl := hl.keep x36 (fun g h1 h2 h3 => by omega)
        replace hm := hm.keep x36 (fun h => by omega)
        replace hb5 := hb5.keep x36 (fun h => by omega)
        replace hbt20 := hbt20.keep x36 (fun h => by omega)
        replace hmt20 := hmt20.keep x36 (fun h => by omega)
        replace hsw20 := hsw20.keep x36 (fun g h1 h2 h3 => by omega)
        replace hbt25 := hbt25.keep x36 (fun h => by omega)
        replace hmt25 := hmt25.keep x36 (fun h => by omega)
        replace hsw25 := hsw25.keep x36 (fun g h1 h2 h3 => by omega)
        replace hs35 := hs35.keep x36 (fun g h1 h2 h3 => by omega)
        replace hbt40 := hbt40.keep x36 (fun h => by omega)
        replace hmt40 := hmt40.keep x36 (fun h => by omega)
        refine Rg_nil ?_
        refine W_region ?_
        refine Rg_run rfl (o_add rfl rfl (by have := hTr20.len; unfold I64; omega)) ?_
        refine Rg_run rfl (o_moveh (v := .int _ _) rfl) ?_
        refine Rg_nil ?_
        refine ⟨(k + 1, ls.set k [115, 112, 111, 105, 108, 116]), ⟨?_, trivial⟩, ?_, ⟨?_, hXL31, ?_⟩, ?_⟩
        · first | rfl | (go_num) | (exact congrArg _ (by omega))
        · repeat (first | exact off_refl _ _ | exact off_mix | refine off_put rfl ?_ | refine off_putN ?_ | refine off_setL rfl ?_ | refine off_mix' rfl ?_)
        · exact ⟨by show k + 1 ≤ wl20.length; omega, by show (ls.set k _).length = _; rw [List.length_set]; exact hls⟩
        · exact hown48
        · show wl20.length - (k + 1) < wl20.length - k; omega
      · skip
        replace hc3 := of_decide_eq_false hc3
        refine W_exit ?_
        refine exAt_hit ?_
        refine W_seq ?_
        refine W_seq ?_
        apply W_draw (β := False) [peq _, (fun v w => Rd encS 1 (fun _ => True) w v wl20), peq _, peq _, peq _, peq _, peq _, peq _, peq _, peq _, peq _, peq _, peq _, peq _, peq _, peq _, peq _, peq _, peq _, peq _, peq _, peq _, peq _, peq _, peq _, peq _] 26 mixed (by kernel_rfl) rfl ⟨peq_stable _, (fun _ _ _ h x => h.ext x), peq_stable _, peq_stable _, peq_stable _, peq_stable _, peq_stable _, peq_stable _, peq_stable _, peq_stable _, peq_stable _, peq_stable _, peq_stable _, peq_stable _, peq_stable _, peq_stable _, peq_stable _, peq_stable _, peq_stable _, peq_stable _, peq_stable _, peq_stable _, peq_stable _, peq_stable _, peq_stable _, peq_stable _, trivial⟩ ?ob16 ?fin16
        case ob16 =>
          refine OblL_cons (fun w38 x39 => ?_) ?_
          · skip
            have dl := (fun z hz => (dl z hz).ext x39)
            have dm := (fun z hz => (dm z hz).ext x39)
            have ho := ho.ext x39
            have hl := hl.ext x39
            have hm := hm.ext x39
            have hb5 := hb5.ext x39
            have hbt20 := hbt20.ext x39
            have hmt20 := hmt20.ext x39
            have hsw20 := hsw20.ext x39
            have hbt25 := hbt25.ext x39
            have hmt25 := hmt25.ext x39
            have hsw25 := hsw25.ext x39
            have hs35 := hs35.ext x39
            have hbt40 := hbt40.ext x39
            have hmt40 := hmt40.ext x39
            have hown48 := hown48.ext x39
            refine bindP_nil ?_
            exact OpS_v rfl (o_moveh (v := .pointer _) rfl)
          refine OblL_cons (fun w40 x41 => ?_) ?_
          · skip
            have dl := (fun z hz => (dl z hz).ext x41)
            have dm := (fun z hz => (dm z hz).ext x41)
            have ho := ho.ext x41
            have hl := hl.ext x41
            have hm := hm.ext x41
            have hb5 := hb5.ext x41
            have hbt20 := hbt20.ext x41
            have hmt20 := hmt20.ext x41
            have hsw20 := hsw20.ext x41
            have hbt25 := hbt25.ext x41
            have hmt25 := hmt25.ext x41
            have hsw25 := hsw25.ext x41
            have hs35 := hs35.ext x41
            have hbt40 := hbt40.ext x41
            have hmt40 := hmt40.ext x41
            have hown48 := hown48.ext x41
            refine bindP_eq ?_
            refine bindP_nil ?_
            exact OpS_mem rfl (o_call2 Tryd.call34 rfl rfl) ((tbelow_ok _ _ _ tt20 hbt20 hmt20 (by omega) hTr20.okl _ (by decide)).mono fun v w' ⟨r, hr, hw, x⟩ => ⟨x, ((below_all hTr20 hr) ▸ hw.trd encS_ok).mono fun _ _ _ => trivial⟩)
          refine OblL_cons (fun w42 x43 => ?_) ?_
          · skip
            have dl := (fun z hz => (dl z hz).ext x43)
            have dm := (fun z hz => (dm z hz).ext x43)
            have ho := ho.ext x43
            have hl := hl.ext x43
            have hm := hm.ext x43
            have hb5 := hb5.ext x43
            have hbt20 := hbt20.ext x43
            have hmt20 := hmt20.ext x43
            have hsw20 := hsw20.ext x43
            have hbt25 := hbt25.ext x43
            have hmt25 := hmt25.ext x43
            have hsw25 := hsw25.ext x43
            have hs35 := hs35.ext x43
            have hbt40 := hbt40.ext x43
            have hmt40 := hmt40.ext x43
            have hown48 := hown48.ext x43
            refine bindP_nil ?_
            exact OpS_v rfl (o_moveh (v := .slice _ _ _) rfl)
          refine OblL_cons (fun w44 x45 => ?_) ?_
          · skip
            have dl := (fun z hz => (dl z hz).ext x45)
            have dm := (fun z hz => (dm z hz).ext x45)
            have ho := ho.ext x45
            have hl := hl.ext x45
            have hm := hm.ext x45
            have hb5 := hb5.ext x45
            have hbt20 := hbt20.ext x45
            have hmt20 := hmt20.ext x45
            have hsw20 := hsw20.ext x45
            have hbt25 := hbt25.ext x45
            have hmt25 := hmt25.ext x45
            have hsw25 := hsw25.ext x45
            have hs35 := hs35.ext x45
            have hbt40 := hbt40.ext x45
            have hmt40 := hmt40.ext x45
            have hown48 := hown48.ext x45
            refine bindP_mem (fun v59 hv59 => ?_)
            obtain ⟨a59, c59, rfl, hs59⟩ := hv59
            refine bindP_eq ?_
            refine bindP_mem (fun v59 hv59 => ?_)
            obtain ⟨a59, c59, rfl, hs59⟩ := hv59
            refine bindP_nil ?_
            exact OpS_call rfl (o_call2 Tryd.call27 rfl rfl) (sequal_ok (False) _ _ _ _ _ _ wl20 wl20 _ hs59 hs35)
          refine OblL_cons (fun w46 x47 => ?_) ?_
          · skip
            have dl := (fun z hz => (dl z hz).ext x47)
            have dm := (fun z hz => (dm z hz).ext x47)
            have ho := ho.ext x47
            have hl := hl.ext x47
            have hm := hm.ext x47
            have hb5 := hb5.ext x47
            have hbt20 := hbt20.ext x47
            have hmt20 := hmt20.ext x47
            have hsw20 := hsw20.ext x47
            have hbt25 := hbt25.ext x47
            have hmt25 := hmt25.ext x47
            have hsw25 := hsw25.ext x47
            have hs35 := hs35.ext x47
            have hbt40 := hbt40.ext x47
            have hmt40 := hmt40.ext x47
            have hown48 := hown48.ext x47
            refine bindP_eq ?_
            refine bindP_nil ?_
            exact OpS_v rfl (o_not rfl)
          refine OblL_cons (fun w48 x49 => ?_) ?_
          · skip
            have dl := (fun z hz => (dl z hz).ext x49)
            have dm := (fun z hz => (dm z hz).ext x49)
            have ho := ho.ext x49
            have hl := hl.ext x49
            have hm := hm.ext x49
            have hb5 := hb5.ext x49
            have hbt20 := hbt20.ext x49
            have hmt20 := hmt20.ext x49
            have hsw20 := hsw20.ext x49
            have hbt25 := hbt25.ext x49
            have hmt25 := hmt25.ext x49
            have hsw25 := hsw25.ext x49
            have hs35 := hs35.ext x49
            have hbt40 := hbt40.ext x49
            have hmt40 := hmt40.ext x49
            have hown48 := hown48.ext x49
            refine bindP_eq ?_
            refine bindP_eq ?_
            refine bindP_nil ?_
            exact OpS_v rfl (o_moveh (v := .bool _) rfl)
          refine OblL_cons (fun w50 x51 => ?_) ?_
          · skip
            have dl := (fun z hz => (dl z hz).ext x51)
            have dm := (fun z hz => (dm z hz).ext x51)
            have ho := ho.ext x51
            have hl := hl.ext x51
            have hm := hm.ext x51
            have hb5 := hb5.ext x51
            have hbt20 := hbt20.ext x51
            have hmt20 := hmt20.ext x51
            have hsw20 := hsw20.ext x51
            have hbt25 := hbt25.ext x51
            have hmt25 := hmt25.ext x51
            have hsw25 := hsw25.ext x51
            have hs35 := hs35.ext x51
            have hbt40 := hbt40.ext x51
            have hmt40 := hmt40.ext x51
            have hown48 := hown48.ext x51
            refine bindP_eq ?_
            refine bindP_nil ?_
            refine OpS_on 5 63 rfl (congrArg Value.bool (by simp)) ?_
            exact OpS_v rfl (o_moveh (v := .int _ _) rfl)
          refine OblL_cons (fun w52 x53 => ?_) ?_
          · skip
            have dl := (fun z hz => (dl z hz).ext x53)
            have dm := (fun z hz => (dm z hz).ext x53)
            have ho := ho.ext x53
            have hl := hl.ext x53
            have hm := hm.ext x53
            have hb5 := hb5.ext x53
            have hbt20 := hbt20.ext x53
            have hmt20 := hmt20.ext x53
            have hsw20 := hsw20.ext x53
            have hbt25 := hbt25.ext x53
            have hmt25 := hmt25.ext x53
            have hsw25 := hsw25.ext x53
            have hs35 := hs35.ext x53
            have hbt40 := hbt40.ext x53
            have hmt40 := hmt40.ext x53
            have hown48 := hown48.ext x53
            refine bindP_eq ?_
            refine bindP_eq ?_
            refine bindP_nil ?_
            refine OpS_on 5 63 rfl (congrArg Value.bool (by simp)) ?_
            exact OpS_v rfl (o_eql rfl rfl)
          refine OblL_cons (fun w54 x55 => ?_) ?_
          · skip
            have dl := (fun z hz => (dl z hz).ext x55)
            have dm := (fun z hz => (dm z hz).ext x55)
            have ho := ho.ext x55
            have hl := hl.ext x55
            have hm := hm.ext x55
            have hb5 := hb5.ext x55
            have hbt20 := hbt20.ext x55
            have hmt20 := hmt20.ext x55
            have hsw20 := hsw20.ext x55
            have hbt25 := hbt25.ext x55
            have hmt25 := hmt25.ext x55
            have hsw25 := hsw25.ext x55
            have hs35 := hs35.ext x55
            have hbt40 := hbt40.ext x55
            have hmt40 := hmt40.ext x55
            have hown48 := hown48.ext x55
            refine bindP_eq ?_
            refine bindP_eq ?_
            refine bindP_eq ?_
            refine bindP_nil ?_
            refine OpS_on 5 63 rfl (congrArg Value.bool (by simp)) ?_
            exact OpS_v rfl (o_moveh (v := .bool _) rfl)
          refine OblL_cons (fun w56 x57 => ?_) ?_
          · skip
            have dl := (fun z hz => (dl z hz).ext x57)
            have dm := (fun z hz => (dm z hz).ext x57)
            have ho := ho.ext x57
            have hl := hl.ext x57
            have hm := hm.ext x57
            have hb5 := hb5.ext x57
            have hbt20 := hbt20.ext x57
            have hmt20 := hmt20.ext x57
            have hsw20 := hsw20.ext x57
            have hbt25 := hbt25.ext x57
            have hmt25 := hmt25.ext x57
            have hsw25 := hsw25.ext x57
            have hs35 := hs35.ext x57
            have hbt40 := hbt40.ext x57
            have hmt40 := hmt40.ext x57
            have hown48 := hown48.ext x57
            refine bindP_eq ?_
            refine bindP_nil ?_
            refine OpS_on 8 66 rfl (congrArg Value.bool (by rfl)) ?_
            exact OpS_v rfl (o_moveh (v := .pointer _) rfl)
          refine OblL_cons (fun w58 x59 => ?_) ?_
          · skip
            have dl := (fun z hz => (dl z hz).ext x59)
            have dm := (fun z hz => (dm z hz).ext x59)
            have ho := ho.ext x59
            have hl := hl.ext x59
            have hm := hm.ext x59
            have hb5 := hb5.ext x59
            have hbt20 := hbt20.ext x59
            have hmt20 := hmt20.ext x59
            have hsw20 := hsw20.ext x59
            have hbt25 := hbt25.ext x59
            have hmt25 := hmt25.ext x59
            have hsw25 := hsw25.ext x59
            have hs35 := hs35.ext x59
            have hbt40 := hbt40.ext x59
            have hmt40 := hmt40.ext x59
            have hown48 := hown48.ext x59
            refine bindP_eq ?_
            refine bindP_nil ?_
            refine OpS_on 8 66 rfl (congrArg Value.bool (by rfl)) ?_
            exact OpS_v rfl (o_loadS Tryd.isAgg55 Tryd.sizeOf55 rfl hb5.at rfl)
          refine OblL_cons (fun w60 x61 => ?_) ?_
          · skip
            have dl := (fun z hz => (dl z hz).ext x61)
            have dm := (fun z hz => (dm z hz).ext x61)
            have ho := ho.ext x61
            have hl := hl.ext x61
            have hm := hm.ext x61
            have hb5 := hb5.ext x61
            have hbt20 := hbt20.ext x61
            have hmt20 := hmt20.ext x61
            have hsw20 := hsw20.ext x61
            have hbt25 := hbt25.ext x61
            have hmt25 := hmt25.ext x61
            have hsw25 := hsw25.ext x61
            have hs35 := hs35.ext x61
            have hbt40 := hbt40.ext x61
            have hmt40 := hmt40.ext x61
            have hown48 := hown48.ext x61
            refine bindP_eq ?_
            refine bindP_eq ?_
            refine bindP_eq ?_
            refine bindP_nil ?_
            refine OpS_on 8 66 rfl (congrArg Value.bool (by rfl)) ?_
            exact OpS_call rfl (o_call1 Tryd.call44 rfl) (of_ok _ _ ho.top)
          refine OblL_cons (fun w62 x63 => ?_) ?_
          · skip
            have dl := (fun z hz => (dl z hz).ext x63)
            have dm := (fun z hz => (dm z hz).ext x63)
            have ho := ho.ext x63
            have hl := hl.ext x63
            have hm := hm.ext x63
            have hb5 := hb5.ext x63
            have hbt20 := hbt20.ext x63
            have hmt20 := hmt20.ext x63
            have hsw20 := hsw20.ext x63
            have hbt25 := hbt25.ext x63
            have hmt25 := hmt25.ext x63
            have hsw25 := hsw25.ext x63
            have hs35 := hs35.ext x63
            have hbt40 := hbt40.ext x63
            have hmt40 := hmt40.ext x63
            have hown48 := hown48.ext x63
            refine bindP_eq ?_
            refine bindP_eq ?_
            refine bindP_eq ?_
            refine bindP_eq ?_
            refine bindP_nil ?_
            refine OpS_on 8 66 rfl (congrArg Value.bool (by rfl)) ?_
            exact OpS_call rfl (o_call2 Tryd.call36 rfl rfl) (thas_ok _ _ _ _ hbt40 hmt40 _)
          refine OblL_cons (fun w64 x65 => ?_) ?_
          · skip
            have dl := (fun z hz => (dl z hz).ext x65)
            have dm := (fun z hz => (dm z hz).ext x65)
            have ho := ho.ext x65
            have hl := hl.ext x65
            have hm := hm.ext x65
            have hb5 := hb5.ext x65
            have hbt20 := hbt20.ext x65
            have hmt20 := hmt20.ext x65
            have hsw20 := hsw20.ext x65
            have hbt25 := hbt25.ext x65
            have hmt25 := hmt25.ext x65
            have hsw25 := hsw25.ext x65
            have hs35 := hs35.ext x65
            have hbt40 := hbt40.ext x65
            have hmt40 := hmt40.ext x65
            have hown48 := hown48.ext x65
            refine bindP_eq ?_
            refine bindP_eq ?_
            refine bindP_nil ?_
            refine OpS_on 8 66 rfl (congrArg Value.bool (by rfl)) ?_
            exact OpS_v rfl (o_not rfl)
          refine OblL_cons (fun w66 x67 => ?_) ?_
          · skip
            have dl := (fun z hz => (dl z hz).ext x67)
            have dm := (fun z hz => (dm z hz).ext x67)
            have ho := ho.ext x67
            have hl := hl.ext x67
            have hm := hm.ext x67
            have hb5 := hb5.ext x67
            have hbt20 := hbt20.ext x67
            have hmt20 := hmt20.ext x67
            have hsw20 := hsw20.ext x67
            have hbt25 := hbt25.ext x67
            have hmt25 := hmt25.ext x67
            have hsw25 := hsw25.ext x67
            have hs35 := hs35.ext x67
            have hbt40 := hbt40.ext x67
            have hmt40 := hmt40.ext x67
            have hown48 := hown48.ext x67
            refine bindP_eq ?_
            refine bindP_eq ?_
            refine bindP_eq ?_
            refine bindP_nil ?_
            refine OpS_on 8 66 rfl (congrArg Value.bool (by rfl)) ?_
            exact OpS_v rfl (o_moveh (v := .bool _) rfl)
          refine OblL_cons (fun w68 x69 => ?_) ?_
          · skip
            have dl := (fun z hz => (dl z hz).ext x69)
            have dm := (fun z hz => (dm z hz).ext x69)
            have ho := ho.ext x69
            have hl := hl.ext x69
            have hm := hm.ext x69
            have hb5 := hb5.ext x69
            have hbt20 := hbt20.ext x69
            have hmt20 := hmt20.ext x69
            have hsw20 := hsw20.ext x69
            have hbt25 := hbt25.ext x69
            have hmt25 := hmt25.ext x69
            have hsw25 := hsw25.ext x69
            have hs35 := hs35.ext x69
            have hbt40 := hbt40.ext x69
            have hmt40 := hmt40.ext x69
            have hown48 := hown48.ext x69
            refine bindP_eq ?_
            refine bindP_nil ?_
            refine OpS_on 14 72 rfl (congrArg Value.bool (by rw [add_has]; rfl)) ?_
            exact OpS_v rfl (o_moveh (v := .pointer _) rfl)
          refine OblL_cons (fun w70 x71 => ?_) ?_
          · skip
            have dl := (fun z hz => (dl z hz).ext x71)
            have dm := (fun z hz => (dm z hz).ext x71)
            have ho := ho.ext x71
            have hl := hl.ext x71
            have hm := hm.ext x71
            have hb5 := hb5.ext x71
            have hbt20 := hbt20.ext x71
            have hmt20 := hmt20.ext x71
            have hsw20 := hsw20.ext x71
            have hbt25 := hbt25.ext x71
            have hmt25 := hmt25.ext x71
            have hsw25 := hsw25.ext x71
            have hs35 := hs35.ext x71
            have hbt40 := hbt40.ext x71
            have hmt40 := hmt40.ext x71
            have hown48 := hown48.ext x71
            refine bindP_eq ?_
            refine bindP_nil ?_
            refine OpS_on 14 72 rfl (congrArg Value.bool (by rw [add_has]; rfl)) ?_
            exact OpS_v rfl (o_moveh (v := .pointer _) rfl)
          refine OblL_cons (fun w72 x73 => ?_) ?_
          · skip
            have dl := (fun z hz => (dl z hz).ext x73)
            have dm := (fun z hz => (dm z hz).ext x73)
            have ho := ho.ext x73
            have hl := hl.ext x73
            have hm := hm.ext x73
            have hb5 := hb5.ext x73
            have hbt20 := hbt20.ext x73
            have hmt20 := hmt20.ext x73
            have hsw20 := hsw20.ext x73
            have hbt25 := hbt25.ext x73
            have hmt25 := hmt25.ext x73
            have hsw25 := hsw25.ext x73
            have hs35 := hs35.ext x73
            have hbt40 := hbt40.ext x73
            have hmt40 := hmt40.ext x73
            have hown48 := hown48.ext x73
            refine bindP_eq ?_
            refine bindP_eq ?_
            refine bindP_eq ?_
            refine bindP_eq ?_
            refine bindP_nil ?_
            refine OpS_on 14 72 rfl (congrArg Value.bool (by rw [add_has]; rfl)) ?_
            exact OpS_call rfl (o_call2 Tryd.call45 rfl rfl) (teq_ok _ _ _ _ hbt40 hmt40 _ _ _ hbt20 hmt20)
          refine OblL_cons (fun w74 x75 => ?_) ?_
          · skip
            have dl := (fun z hz => (dl z hz).ext x75)
            have dm := (fun z hz => (dm z hz).ext x75)
            have ho := ho.ext x75
            have hl := hl.ext x75
            have hm := hm.ext x75
            have hb5 := hb5.ext x75
            have hbt20 := hbt20.ext x75
            have hmt20 := hmt20.ext x75
            have hsw20 := hsw20.ext x75
            have hbt25 := hbt25.ext x75
            have hmt25 := hmt25.ext x75
            have hsw25 := hsw25.ext x75
            have hs35 := hs35.ext x75
            have hbt40 := hbt40.ext x75
            have hmt40 := hmt40.ext x75
            have hown48 := hown48.ext x75
            refine bindP_eq ?_
            refine bindP_nil ?_
            refine OpS_on 14 72 rfl (congrArg Value.bool (by rw [add_has]; rfl)) ?_
            exact OpS_v rfl (o_moveh (v := .pointer _) rfl)
          refine OblL_cons (fun w76 x77 => ?_) ?_
          · skip
            have dl := (fun z hz => (dl z hz).ext x77)
            have dm := (fun z hz => (dm z hz).ext x77)
            have ho := ho.ext x77
            have hl := hl.ext x77
            have hm := hm.ext x77
            have hb5 := hb5.ext x77
            have hbt20 := hbt20.ext x77
            have hmt20 := hmt20.ext x77
            have hsw20 := hsw20.ext x77
            have hbt25 := hbt25.ext x77
            have hmt25 := hmt25.ext x77
            have hsw25 := hsw25.ext x77
            have hs35 := hs35.ext x77
            have hbt40 := hbt40.ext x77
            have hmt40 := hmt40.ext x77
            have hown48 := hown48.ext x77
            refine bindP_eq ?_
            refine bindP_nil ?_
            refine OpS_on 14 72 rfl (congrArg Value.bool (by rw [add_has]; rfl)) ?_
            exact OpS_v rfl (o_loadS Tryd.isAgg55 Tryd.sizeOf55 rfl hb5.at rfl)
          refine OblL_cons (fun w78 x79 => ?_) ?_
          · skip
            have dl := (fun z hz => (dl z hz).ext x79)
            have dm := (fun z hz => (dm z hz).ext x79)
            have ho := ho.ext x79
            have hl := hl.ext x79
            have hm := hm.ext x79
            have hb5 := hb5.ext x79
            have hbt20 := hbt20.ext x79
            have hmt20 := hmt20.ext x79
            have hsw20 := hsw20.ext x79
            have hbt25 := hbt25.ext x79
            have hmt25 := hmt25.ext x79
            have hsw25 := hsw25.ext x79
            have hs35 := hs35.ext x79
            have hbt40 := hbt40.ext x79
            have hmt40 := hmt40.ext x79
            have hown48 := hown48.ext x79
            refine bindP_eq ?_
            refine bindP_eq ?_
            refine bindP_eq ?_
            refine bindP_nil ?_
            refine OpS_on 14 72 rfl (congrArg Value.bool (by rw [add_has]; rfl)) ?_
            exact OpS_call rfl (o_call1 Tryd.call44 rfl) (of_ok _ _ ho.top)
          refine OblL_cons (fun w80 x81 => ?_) ?_
          · skip
            have dl := (fun z hz => (dl z hz).ext x81)
            have dm := (fun z hz => (dm z hz).ext x81)
            have ho := ho.ext x81
            have hl := hl.ext x81
            have hm := hm.ext x81
            have hb5 := hb5.ext x81
            have hbt20 := hbt20.ext x81
            have hmt20 := hmt20.ext x81
            have hsw20 := hsw20.ext x81
            have hbt25 := hbt25.ext x81
            have hmt25 := hmt25.ext x81
            have hsw25 := hsw25.ext x81
            have hs35 := hs35.ext x81
            have hbt40 := hbt40.ext x81
            have hmt40 := hmt40.ext x81
            have hown48 := hown48.ext x81
            refine bindP_eq ?_
            refine bindP_eq ?_
            refine bindP_eq ?_
            refine bindP_eq ?_
            refine bindP_nil ?_
            refine OpS_on 14 72 rfl (congrArg Value.bool (by rw [add_has]; rfl)) ?_
            exact OpS_call rfl (o_call2 Tryd.call36 rfl rfl) (thas_ok _ _ _ _ hbt20 hmt20 _)
          refine OblL_cons (fun w82 x83 => ?_) ?_
          · skip
            have dl := (fun z hz => (dl z hz).ext x83)
            have dm := (fun z hz => (dm z hz).ext x83)
            have ho := ho.ext x83
            have hl := hl.ext x83
            have hm := hm.ext x83
            have hb5 := hb5.ext x83
            have hbt20 := hbt20.ext x83
            have hmt20 := hmt20.ext x83
            have hsw20 := hsw20.ext x83
            have hbt25 := hbt25.ext x83
            have hmt25 := hmt25.ext x83
            have hsw25 := hsw25.ext x83
            have hs35 := hs35.ext x83
            have hbt40 := hbt40.ext x83
            have hmt40 := hmt40.ext x83
            have hown48 := hown48.ext x83
            refine bindP_eq ?_
            refine bindP_eq ?_
            refine bindP_eq ?_
            refine bindP_nil ?_
            refine OpS_on 14 72 rfl (congrArg Value.bool (by rw [add_has]; rfl)) ?_
            exact OpS_v rfl (o_bneq Tryd.underlying4 rfl rfl)
          refine OblL_cons (fun w84 x85 => ?_) ?_
          · skip
            have dl := (fun z hz => (dl z hz).ext x85)
            have dm := (fun z hz => (dm z hz).ext x85)
            have ho := ho.ext x85
            have hl := hl.ext x85
            have hm := hm.ext x85
            have hb5 := hb5.ext x85
            have hbt20 := hbt20.ext x85
            have hmt20 := hmt20.ext x85
            have hsw20 := hsw20.ext x85
            have hbt25 := hbt25.ext x85
            have hmt25 := hmt25.ext x85
            have hsw25 := hsw25.ext x85
            have hs35 := hs35.ext x85
            have hbt40 := hbt40.ext x85
            have hmt40 := hmt40.ext x85
            have hown48 := hown48.ext x85
            refine bindP_eq ?_
            refine bindP_eq ?_
            refine bindP_eq ?_
            refine bindP_nil ?_
            refine OpS_on 8 66 rfl (congrArg Value.bool (by rfl)) ?_
            exact OpS_v rfl (o_pickF (v := .bool _) (congrArg Value.bool (by rw [add_has]; rfl)) rfl)
          refine OblL_cons (fun w86 x87 => ?_) ?_
          · skip
            have dl := (fun z hz => (dl z hz).ext x87)
            have dm := (fun z hz => (dm z hz).ext x87)
            have ho := ho.ext x87
            have hl := hl.ext x87
            have hm := hm.ext x87
            have hb5 := hb5.ext x87
            have hbt20 := hbt20.ext x87
            have hmt20 := hmt20.ext x87
            have hsw20 := hsw20.ext x87
            have hbt25 := hbt25.ext x87
            have hmt25 := hmt25.ext x87
            have hsw25 := hsw25.ext x87
            have hs35 := hs35.ext x87
            have hbt40 := hbt40.ext x87
            have hmt40 := hmt40.ext x87
            have hown48 := hown48.ext x87
            refine bindP_eq ?_
            refine bindP_eq ?_
            refine bindP_eq ?_
            refine bindP_nil ?_
            refine OpS_on 5 63 rfl (congrArg Value.bool (by simp)) ?_
            exact OpS_v rfl (o_pickT (v := .bool _) (congrArg Value.bool (by rfl)) rfl)
          refine OblL_cons (fun w88 x89 => ?_) ?_
          · skip
            have dl := (fun z hz => (dl z hz).ext x89)
            have dm := (fun z hz => (dm z hz).ext x89)
            have ho := ho.ext x89
            have hl := hl.ext x89
            have hm := hm.ext x89
            have hb5 := hb5.ext x89
            have hbt20 := hbt20.ext x89
            have hmt20 := hmt20.ext x89
            have hsw20 := hsw20.ext x89
            have hbt25 := hbt25.ext x89
            have hmt25 := hmt25.ext x89
            have hsw25 := hsw25.ext x89
            have hs35 := hs35.ext x89
            have hbt40 := hbt40.ext x89
            have hmt40 := hmt40.ext x89
            have hown48 := hown48.ext x89
            refine bindP_eq ?_
            refine bindP_eq ?_
            refine bindP_nil ?_
            exact OpS_v rfl (o_pickF (v := .bool _) (congrArg Value.bool (by simp)) rfl)
          exact OblL_nil
        case fin16 =>
          intro w90 x91
          have z92 := Bel.size x91
          replace hX := Bel.ex hX x91
          replace dl := (fun z hz => (dl z hz).ext x91)
          replace dm := (fun z hz => (dm z hz).ext x91)
          replace ho := ho.ext x91
          replace hl := hl.ext x91
          replace hm := hm.ext x91
          replace hb5 := hb5.ext x91
          replace hbt20 := hbt20.ext x91
          replace hmt20 := hmt20.ext x91
          replace hsw20 := hsw20.ext x91
          replace hbt25 := hbt25.ext x91
          replace hmt25 := hmt25.ext x91
          replace hsw25 := hsw25.ext x91
          replace hs35 := hs35.ext x91
          replace hbt40 := hbt40.ext x91
          replace hmt40 := hmt40.ext x91
          replace hown48 := hown48.ext x91
          refine bindP_eq ?_
          refine bindP_mem (fun v59 hv59 => ?_)
          obtain ⟨a59, c59, rfl, hs59⟩ := hv59
          refine bindP_eq ?_
          refine bindP_eq ?_
          refine bindP_eq ?_
          refine bindP_eq ?_
          refine bindP_eq ?_
          refine bindP_eq ?_
          refine bindP_eq ?_
          refine bindP_eq ?_
          refine bindP_eq ?_
          refine bindP_eq ?_
          refine bindP_eq ?_
          refine bindP_eq ?_
          refine bindP_eq ?_
          refine bindP_eq ?_
          refine bindP_eq ?_
          refine bindP_eq ?_
          refine bindP_eq ?_
          refine bindP_eq ?_
          refine bindP_eq ?_
          refine bindP_eq ?_
          refine bindP_eq ?_
          refine bindP_eq ?_
          refine bindP_eq ?_
          refine bindP_eq ?_
          refine bindP_nil ?_
          refine Rg_nil ?_
          refine W_cond_false (congrArg Value.bool (by rw [add_same hTr20 hv]; simp)) ?_
          refine W_skip ?_
          refine W_seq ?_
          refine W_region ?_
          refine Rg_run rfl (o_moveh (v := .pointer _) rfl) ?_
          refine Rg_run rfl (o_moveh (v := .pointer _) rfl) ?_
          refine Rg_enter rfl (o_call2 Tryd.call45 rfl rfl) (Ok.mono (teq_ok _ _ _ _ hbt20 hmt20 _ _ _ hbt20 hmt20) ?_)
          rintro _ w93 ⟨rfl, x94⟩
          have z95 := Bel.size x94
          replace hX := Bel.ex hX x94
          replace dl := (fun z hz => (dl z hz).ext x94)
          replace dm := (fun z hz => (dm z hz).ext x94)
          replace ho := ho.ext x94
          replace hl := hl.ext x94
          replace hm := hm.ext x94
          replace hb5 := hb5.ext x94
          replace hbt20 := hbt20.ext x94
          replace hmt20 := hmt20.ext x94
          replace hsw20 := hsw20.ext x94
          replace hbt25 := hbt25.ext x94
          replace hmt25 := hmt25.ext x94
          replace hsw25 := hsw25.ext x94
          replace hs35 := hs35.ext x94
          replace hbt40 := hbt40.ext x94
          replace hmt40 := hmt40.ext x94
          replace hown48 := hown48.ext x94
          refine Rg_run rfl (o_moveh (v := .bool _) rfl) ?_
          refine Rg_on 3 87 rfl (congrArg Value.bool (by exact eqT_self _)) ?_
          refine Rg_run rfl (o_moveh (v := .pointer _) rfl) ?_
          refine Rg_on 3 87 rfl (congrArg Value.bool (by exact eqT_self _)) ?_
          refine Rg_run rfl (o_moveh (v := .pointer _) rfl) ?_
          refine Rg_on 3 87 rfl (congrArg Value.bool (by exact eqT_self _)) ?_
          refine Rg_enter rfl (o_call2 Tryd.call45 rfl rfl) (Ok.mono (teq_ok _ _ _ _ hbt20 hmt20 _ _ _ hbt25 hmt25) ?_)
          rintro _ w96 ⟨rfl, x97⟩
          have z98 := Bel.size x97
          replace hX := Bel.ex hX x97
          replace dl := (fun z hz => (dl z hz).ext x97)
          replace dm := (fun z hz => (dm z hz).ext x97)
          replace ho := ho.ext x97
          replace hl := hl.ext x97
          replace hm := hm.ext x97
          replace hb5 := hb5.ext x97
          replace hbt20 := hbt20.ext x97
          replace hmt20 := hmt20.ext x97
          replace hsw20 := hsw20.ext x97
          replace hbt25 := hbt25.ext x97
          replace hmt25 := hmt25.ext x97
          replace hsw25 := hsw25.ext x97
          replace hs35 := hs35.ext x97
          replace hbt40 := hbt40.ext x97
          replace hmt40 := hmt40.ext x97
          replace hown48 := hown48.ext x97
          refine Rg_on 3 87 rfl (congrArg Value.bool (by exact eqT_self _)) ?_
          refine Rg_run rfl (o_moveh (v := .slice _ _ _) rfl) ?_
          refine Rg_on 3 87 rfl (congrArg Value.bool (by exact eqT_self _)) ?_
          refine Rg_run rfl (o_moveh (v := .pointer _) rfl) ?_
          refine Rg_on 3 87 rfl (congrArg Value.bool (by exact eqT_self _)) ?_
          refine Rg_enter rfl (o_call2 Tryd.call34 rfl rfl) (Ok.mono (tbelow_ok _ _ _ tt25 hbt25 hmt25 (by omega) hTr25.okl _ (by decide)) ?_)
          rintro v93 w99 ⟨l93, hsr93, hown93, x100⟩
          have z101 := Bel.size x100
          replace hX := Bel.ex hX x100
          replace dl := (fun z hz => (dl z hz).ext x100)
          replace dm := (fun z hz => (dm z hz).ext x100)
          replace ho := ho.ext x100
          replace hl := hl.ext x100
          replace hm := hm.ext x100
          replace hb5 := hb5.ext x100
          replace hbt20 := hbt20.ext x100
          replace hmt20 := hmt20.ext x100
          replace hsw20 := hsw20.ext x100
          replace hbt25 := hbt25.ext x100
          replace hmt25 := hmt25.ext x100
          replace hsw25 := hsw25.ext x100
          replace hs35 := hs35.ext x100
          replace hbt40 := hbt40.ext x100
          replace hmt40 := hmt40.ext x100
          replace hown48 := hown48.ext x100
          replace hown93 := hown93.mono (D' := fun g => w.heap.size ≤ g) (fun g h1 h2 => by omega)
          have e93 : l93 = wl25 := below_all hTr25 hsr93; subst l93; obtain ⟨a93, c93, hv93, hs93⟩ := hown93.sl encS_ok; subst hv93
          refine Rg_on 3 87 rfl (congrArg Value.bool (by exact eqT_self _)) ?_
          refine Rg_enter rfl (o_call2 Tryd.call27 rfl rfl) (Ok.mono (sequal_ok (False) _ _ _ _ _ _ wl20 wl25 _ hs35 hs93) ?_)
          rintro _ w102 ⟨rfl, x103⟩
          have z104 := Bel.size x103
          replace hX := Bel.ex hX x103
          replace dl := (fun z hz => (dl z hz).ext x103)
          replace dm := (fun z hz => (dm z hz).ext x103)
          replace ho := ho.ext x103
          replace hl := hl.ext x103
          replace hm := hm.ext x103
          replace hb5 := hb5.ext x103
          replace hbt20 := hbt20.ext x103
          replace hmt20 := hmt20.ext x103
          replace hsw20 := hsw20.ext x103
          replace hbt25 := hbt25.ext x103
          replace hmt25 := hmt25.ext x103
          replace hsw25 := hsw25.ext x103
          replace hs35 := hs35.ext x103
          replace hbt40 := hbt40.ext x103
          replace hmt40 := hmt40.ext x103
          replace hown48 := hown48.ext x103
          replace hown93 := hown93.ext x103
          replace hs93 := hs93.ext x103
          refine Rg_on 3 87 rfl (congrArg Value.bool (by exact eqT_self _)) ?_
          refine Rg_run rfl (o_beql Tryd.underlying4 rfl rfl) ?_
          refine Rg_run rfl (o_pickT (v := .bool _) (congrArg Value.bool (by exact eqT_self _)) rfl) ?_
          refine Rg_run rfl (o_moveh (v := .bool _) rfl) ?_
          refine Rg_on 13 97 rfl (congrArg Value.bool (by rw [eqT_iff hTr20 hTr25]; simp)) ?_
          refine Rg_run rfl (o_moveh (v := .pointer _) rfl) ?_
          refine Rg_on 13 97 rfl (congrArg Value.bool (by rw [eqT_iff hTr20 hTr25]; simp)) ?_
          refine Rg_run rfl (o_moveh (v := .pointer _) rfl) ?_
          refine Rg_on 13 97 rfl (congrArg Value.bool (by rw [eqT_iff hTr20 hTr25]; simp)) ?_
          refine Rg_enter rfl (o_call2 Tryd.call45 rfl rfl) (Ok.mono (teq_ok _ _ _ _ hbt20 hmt20 _ _ _ hbt25 hmt25) ?_)
          rintro _ w105 ⟨rfl, x106⟩
          have z107 := Bel.size x106
          replace hX := Bel.ex hX x106
          replace dl := (fun z hz => (dl z hz).ext x106)
          replace dm := (fun z hz => (dm z hz).ext x106)
          replace ho := ho.ext x106
          replace hl := hl.ext x106
          replace hm := hm.ext x106
          replace hb5 := hb5.ext x106
          replace hbt20 := hbt20.ext x106
          replace hmt20 := hmt20.ext x106
          replace hsw20 := hsw20.ext x106
          replace hbt25 := hbt25.ext x106
          replace hmt25 := hmt25.ext x106
          replace hsw25 := hsw25.ext x106
          replace hs35 := hs35.ext x106
          replace hbt40 := hbt40.ext x106
          replace hmt40 := hmt40.ext x106
          replace hown48 := hown48.ext x106
          replace hown93 := hown93.ext x106
          replace hs93 := hs93.ext x106
          refine Rg_on 13 97 rfl (congrArg Value.bool (by rw [eqT_iff hTr20 hTr25]; simp)) ?_
          refine Rg_run rfl (o_moveh (v := .pointer _) rfl) ?_
          refine Rg_on 13 97 rfl (congrArg Value.bool (by rw [eqT_iff hTr20 hTr25]; simp)) ?_
          refine Rg_run rfl (o_moveh (v := .pointer _) rfl) ?_
          refine Rg_on 13 97 rfl (congrArg Value.bool (by rw [eqT_iff hTr20 hTr25]; simp)) ?_
          refine Rg_enter rfl (o_call2 Tryd.call45 rfl rfl) (Ok.mono (teq_ok _ _ _ _ hbt25 hmt25 _ _ _ hbt20 hmt20) ?_)
          rintro _ w108 ⟨rfl, x109⟩
          have z110 := Bel.size x109
          replace hX := Bel.ex hX x109
          replace dl := (fun z hz => (dl z hz).ext x109)
          replace dm := (fun z hz => (dm z hz).ext x109)
          replace ho := ho.ext x109
          replace hl := hl.ext x109
          replace hm := hm.ext x109
          replace hb5 := hb5.ext x109
          replace hbt20 := hbt20.ext x109
          replace hmt20 := hmt20.ext x109
          replace hsw20 := hsw20.ext x109
          replace hbt25 := hbt25.ext x109
          replace hmt25 := hmt25.ext x109
          replace hsw25 := hsw25.ext x109
          replace hs35 := hs35.ext x109
          replace hbt40 := hbt40.ext x109
          replace hmt40 := hmt40.ext x109
          replace hown48 := hown48.ext x109
          replace hown93 := hown93.ext x109
          replace hs93 := hs93.ext x109
          refine Rg_on 13 97 rfl (congrArg Value.bool (by rw [eqT_iff hTr20 hTr25]; simp)) ?_
          refine Rg_run rfl (o_beql Tryd.underlying4 rfl rfl) ?_
          refine Rg_run rfl (o_pickT (v := .bool _) (congrArg Value.bool (by rw [eqT_iff hTr20 hTr25]; simp)) rfl) ?_
          refine Rg_run rfl (o_assignh (v := .bool _) rfl) ?_
          refine Rg_nil ?_
          refine W_ret ?_
          refine ⟨_, res_tmp rfl rfl, ?_⟩
          refine ⟨congrArg Value.bool ?_, hX⟩
          all_goals (rw [eqT_comm hTr20 hTr25]; simp)
    · skip
      refine Rg_enter rfl (o_call2 Tryd.call43 rfl rfl) (Ok.mono (tadd_no _ _ _ _ hbt20 hmt20 _ (of_len _) (by simpa using hv)) ?_)
      rintro _ w111 ⟨rfl, x112⟩
      have z113 := Bel.size x112
      replace hX := Bel.ex hX x112
      replace dl := (fun z hz => (dl z hz).ext x112)
      replace dm := (fun z hz => (dm z hz).ext x112)
      replace ho := ho.ext x112
      replace hl := hl.ext x112
      replace hm := hm.ext x112
      replace hb5 := hb5.ext x112
      replace hbt20 := hbt20.ext x112
      replace hmt20 := hmt20.ext x112
      replace hsw20 := hsw20.ext x112
      replace hbt25 := hbt25.ext x112
      replace hmt25 := hmt25.ext x112
      replace hsw25 := hsw25.ext x112
      replace hown35 := hown35.ext x112
      replace hs35 := hs35.ext x112
      refine Rg_run rfl (o_moveh (v := .tuple _) rfl) ?_
      refine Rg_run rfl (o_extract rfl rfl) ?_
      refine Rg_run rfl (o_extract rfl rfl) ?_
      refine Rg_run rfl (o_assignh (v := .pointer _) rfl) ?_
      refine Rg_run rfl (o_assignh (v := .int _ _) rfl) ?_
      refine Rg_nil ?_
      refine W_seq ?_
      refine W_region ?_
      refine Rg_run rfl (o_moveh (v := .pointer _) rfl) ?_
      refine Rg_run rfl (o_loadS Tryd.isAgg55 Tryd.sizeOf55 rfl hb5.at rfl) ?_
      refine Rg_enter rfl (o_call1 Tryd.call44 rfl) (Ok.mono (of_ok _ _ ho.top) ?_)
      rintro _ w114 ⟨rfl, x115⟩
      have z116 := Bel.size x115
      replace hX := Bel.ex hX x115
      replace dl := (fun z hz => (dl z hz).ext x115)
      replace dm := (fun z hz => (dm z hz).ext x115)
      replace ho := ho.ext x115
      replace hl := hl.ext x115
      replace hm := hm.ext x115
      replace hb5 := hb5.ext x115
      replace hbt20 := hbt20.ext x115
      replace hmt20 := hmt20.ext x115
      replace hsw20 := hsw20.ext x115
      replace hbt25 := hbt25.ext x115
      replace hmt25 := hmt25.ext x115
      replace hsw25 := hsw25.ext x115
      replace hown35 := hown35.ext x115
      replace hs35 := hs35.ext x115
      refine Rg_enter rfl (o_call2 Tryd.call42 rfl rfl) (Ok.mono (trem_any _ _ _ tt20 hbt20 hmt20 (by omega) hTr20.okl _ (of_len _)) ?_)
      rintro _ w117 ⟨⟨u46, rfl⟩, x118⟩
      have z119 := Bel.size x118
      replace hX := Bel.ex hX x118
      replace dl := (fun z hz => (dl z hz).ext x118)
      replace dm := (fun z hz => (dm z hz).ext x118)
      replace ho := ho.ext x118
      replace hl := hl.ext x118
      replace hm := hm.ext x118
      replace hb5 := hb5.ext x118
      replace hbt20 := hbt20.ext x118
      replace hmt20 := hmt20.ext x118
      replace hsw20 := hsw20.ext x118
      replace hbt25 := hbt25.ext x118
      replace hmt25 := hmt25.ext x118
      replace hsw25 := hsw25.ext x118
      replace hown35 := hown35.ext x118
      replace hs35 := hs35.ext x118
      refine Rg_nil ?_
      refine W_seq ?_
      refine W_region ?_
      obtain ⟨n0, hn0⟩ : ∃ n, n = w117.heap.size := ⟨_, rfl⟩
      refine Rg_run rfl (o_moveh (v := .pointer _) rfl) ?_
      refine Rg_enter rfl (o_call2 Tryd.call34 rfl rfl) (Ok.mono (tbelow_ok _ _ _ tt20 hbt20 hmt20 (by omega) hTr20.okl _ (by decide)) ?_)
      rintro v48 w120 ⟨l48, hsr48, hown48, x121⟩
      have z122 := Bel.size x121
      replace hX := Bel.ex hX x121
      replace dl := (fun z hz => (dl z hz).ext x121)
      replace dm := (fun z hz => (dm z hz).ext x121)
      replace ho := ho.ext x121
      replace hl := hl.ext x121
      replace hm := hm.ext x121
      replace hb5 := hb5.ext x121
      replace hbt20 := hbt20.ext x121
      replace hmt20 := hmt20.ext x121
      replace hsw20 := hsw20.ext x121
      replace hbt25 := hbt25.ext x121
      replace hmt25 := hmt25.ext x121
      replace hsw25 := hsw25.ext x121
      replace hown35 := hown35.ext x121
      replace hs35 := hs35.ext x121
      replace hown48 := hown48.mono (D' := fun g => n0 ≤ g) (fun g h1 h2 => by omega)
      have e48 : l48 = wl20 := below_all hTr20 hsr48; subst l48; obtain ⟨a48, c48, hv48, -⟩ := hown48.sl encS_ok; subst hv48
      refine Rg_run rfl (o_assignh (v := .slice _ _ _) rfl) ?_
      refine Rg_nil ?_
      refine W_seq ?_
      refine W_seq ?_
      refine W_region ?_
      refine Rg_run rfl (o_moveh (v := .slice _ _ _) rfl) ?_
      refine Rg_run rfl (o_llen Tryd.underlying35 rfl) ?_
      refine Rg_run rfl o_movec ?_
      refine Rg_nil ?_
      refine W_block ?_
      refine W_for (α := Nat × List Str) [(15, 15), (51, 57)] (fun q => [(51, .int .i64 (q.1 : Int))]) (fun q w' => (q.1 ≤ wl20.length ∧ q.2.length = wl20.length) ∧ Bel False (fun g => n0 ≤ g) w120 w' ∧ (Own encS 1 9 (fun g => n0 ≤ g) w' (.slice a48 wl20.length c48) q.2)) (fun q => wl20.length - q.1) (0, wl20) ⟨rfl, trivial⟩ ⟨⟨Nat.zero_le _, rfl⟩, Bel.refl _ _, hown48⟩ ?_
      rintro ⟨k, ls⟩ fb125 w124 ⟨⟨hk, hls⟩, hXL123, hown48⟩
      dsimp only at *
      have z126 := Bel.size hXL123
      replace hX := Bel.out hX hXL123 (fun g h1 h2 => by first | exact h2 | omega)
      replace dl := fun z hz => (dl z hz).keep hXL123 (fun g h1 h2 h3 => by omega)
      replace dm := fun z hz => (dm z hz).keep hXL123 (fun g h1 h2 h3 => by omega)
      replace ho := ho.keep hXL123 (fun g h1 h2 h3 => by omega)
      replace hl := hl.keep hXL123 (fun g h1 h2 h3 => by omega)
      replace hm := hm.keep hXL123 (fun h => by omega)
      replace hb5 := hb5.keep hXL123 (fun h => by omega)
      replace hbt20 := hbt20.keep hXL123 (fun h => by omega)
      replace hmt20 := hmt20.keep hXL123 (fun h => by omega)
      replace hsw20 := hsw20.keep hXL123 (fun g h1 h2 h3 => by omega)
      replace hbt25 := hbt25.keep hXL123 (fun h => by omega)
      replace hmt25 := hmt25.keep hXL123 (fun h => by omega)
      replace hsw25 := hsw25.keep hXL123 (fun g h1 h2 h3 => by omega)
      replace hs35 := hs35.keep hXL123 (fun g h1 h2 h3 => by omega)
      refine W_seq ?_
      refine W_region ?_
      refine Rg_run rfl (o_lss rfl rfl) ?_
      refine Rg_nil ?_
      refine W_seq ?_
      refine W_cond rfl (fun hc5 => ?_) (fun hc5 => ?_)
      · skip
        replace hc5 := of_decide_eq_true hc5
        refine W_skip ?_
        refine W_seq ?_
        refine W_block ?_
        refine W_seq ?_
        refine W_region ?_
        refine Rg_run rfl (o_moveh (v := .int _ _) rfl) ?_
        refine Rg_run rfl (o_assignh (v := .int _ _) rfl) ?_
        refine Rg_nil ?_
        refine W_region ?_
        refine Rg_run rfl (o_moveh (v := .slice _ _ _) rfl) ?_
        refine Rg_run rfl (o_moveh (v := .int _ _) rfl) ?_
        refine Rg_run rfl (o_iaO Tryd.underlying35 Tryd.sizeOf9 hown48 rfl rfl (by omega)) ?_
        refine Rg_elst (u := [115, 112, 111, 105, 108, 116]) rfl encS_ok Tryd.sizeOf9 rfl rfl rfl hown48 (by omega) ?_
        intro w127 x128 hown48
        have z129 := Bel.size x128
        replace hX := Bel.out hX x128 (fun g h1 h2 => by first | exact h2 | omega)
        replace hXL123 := Bel.out hXL123 x128 (fun g h1 h2 => by first | exact h2 | omega)
        replace dl := fun z hz => (dl z hz).keep x128 (fun g h1 h2 h3 => by omega)
        replace dm := fun z hz => (dm z hz).keep x128 (fun g h1 h2 h3 => by omega)
        replace ho := ho.keep x128 (fun g h1 h2 h3 => by omega)
        replace hl := hl.keep x128 (fun g h1 h2 h3 => by omega)
        replace hm := hm.keep x128 (fun h => by omega)
        replace hb5 := hb5.keep x128 (fun h => by omega)
        replace hbt20 := hbt20.keep x128 (fun h => by omega)
        replace hmt20 := hmt20.keep x128 (fun h => by omega)
        replace hsw20 := hsw20.keep x128 (fun g h1 h2 h3 => by omega)
        replace hbt25 := hbt25.keep x128 (fun h => by omega)
        replace hmt25 := hmt25.keep x128 (fun h => by omega)
        replace hsw25 := hsw25.keep x128 (fun g h1 h2 h3 => by omega)
        replace hs35 := hs35.keep x128 (fun g h1 h2 h3 => by omega)
        refine Rg_nil ?_
        refine W_region ?_
        refine Rg_run rfl (o_add rfl rfl (by have := hTr20.len; unfold I64; omega)) ?_
        refine Rg_run rfl (o_moveh (v := .int _ _) rfl) ?_
        refine Rg_nil ?_
        refine ⟨(k + 1, ls.set k [115, 112, 111, 105, 108, 116]), ⟨?_, trivial⟩, ?_, ⟨?_, hXL123, ?_⟩, ?_⟩
        · first | rfl | (go_num) | (exact congrArg _ (by omega))
        · repeat (first | exact off_refl _ _ | exact off_mix | refine off_put rfl ?_ | refine off_putN ?_ | refine off_setL rfl ?_ | refine off_mix' rfl ?_)
        · exact ⟨by show k + 1 ≤ wl20.length; omega, by show (ls.set k _).length = _; rw [List.length_set]; exact hls⟩
        · exact hown48
        · show wl20.length - (k + 1) < wl20.length - k; omega
      · skip
        replace hc5 := of_decide_eq_false hc5
        refine W_exit ?_
        refine exAt_hit ?_
        refine W_seq ?_
        refine W_seq ?_
        apply W_draw (β := False) [peq _, (fun v w => Rd encS 1 (fun _ => True) w v wl20), peq _, peq _, peq _, peq _, peq _, peq _, peq _, peq _, peq _, peq _, peq _, peq _, peq _, peq _, peq _, peq _, peq _, peq _, peq _, peq _, peq _, peq _, peq _, peq _] 26 mixed (by kernel_rfl) rfl ⟨peq_stable _, (fun _ _ _ h x => h.ext x), peq_stable _, peq_stable _, peq_stable _, peq_stable _, peq_stable _, peq_stable _, peq_stable _, peq_stable _, peq_stable _, peq_stable _, peq_stable _, peq_stable _, peq_stable _, peq_stable _, peq_stable _, peq_stable _, peq_stable _, peq_stable _, peq_stable _, peq_stable _, peq_stable _, peq_stable _, peq_stable _, peq_stable _, trivial⟩ ?ob16 ?fin16
        case ob16 =>
          refine OblL_cons (fun w130 x131 => ?_) ?_
          · skip
            have dl := (fun z hz => (dl z hz).ext x131)
            have dm := (fun z hz => (dm z hz).ext x131)
            have ho := ho.ext x131
            have hl := hl.ext x131
            have hm := hm.ext x131
            have hb5 := hb5.ext x131
            have hbt20 := hbt20.ext x131
            have hmt20 := hmt20.ext x131
            have hsw20 := hsw20.ext x131
            have hbt25 := hbt25.ext x131
            have hmt25 := hmt25.ext x131
            have hsw25 := hsw25.ext x131
            have hs35 := hs35.ext x131
            have hown48 := hown48.ext x131
            refine bindP_nil ?_
            exact OpS_v rfl (o_moveh (v := .pointer _) rfl)
          refine OblL_cons (fun w132 x133 => ?_) ?_
          · skip
            have dl := (fun z hz => (dl z hz).ext x133)
            have dm := (fun z hz => (dm z hz).ext x133)
            have ho := ho.ext x133
            have hl := hl.ext x133
            have hm := hm.ext x133
            have hb5 := hb5.ext x133
            have hbt20 := hbt20.ext x133
            have hmt20 := hmt20.ext x133
            have hsw20 := hsw20.ext x133
            have hbt25 := hbt25.ext x133
            have hmt25 := hmt25.ext x133
            have hsw25 := hsw25.ext x133
            have hs35 := hs35.ext x133
            have hown48 := hown48.ext x133
            refine bindP_eq ?_
            refine bindP_nil ?_
            exact OpS_mem rfl (o_call2 Tryd.call34 rfl rfl) ((tbelow_ok _ _ _ tt20 hbt20 hmt20 (by omega) hTr20.okl _ (by decide)).mono fun v w' ⟨r, hr, hw, x⟩ => ⟨x, ((below_all hTr20 hr) ▸ hw.trd encS_ok).mono fun _ _ _ => trivial⟩)
          refine OblL_cons (fun w134 x135 => ?_) ?_
          · skip
            have dl := (fun z hz => (dl z hz).ext x135)
            have dm := (fun z hz => (dm z hz).ext x135)
            have ho := ho.ext x135
            have hl := hl.ext x135
            have hm := hm.ext x135
            have hb5 := hb5.ext x135
            have hbt20 := hbt20.ext x135
            have hmt20 := hmt20.ext x135
            have hsw20 := hsw20.ext x135
            have hbt25 := hbt25.ext x135
            have hmt25 := hmt25.ext x135
            have hsw25 := hsw25.ext x135
            have hs35 := hs35.ext x135
            have hown48 := hown48.ext x135
            refine bindP_nil ?_
            exact OpS_v rfl (o_moveh (v := .slice _ _ _) rfl)
          refine OblL_cons (fun w136 x137 => ?_) ?_
          · skip
            have dl := (fun z hz => (dl z hz).ext x137)
            have dm := (fun z hz => (dm z hz).ext x137)
            have ho := ho.ext x137
            have hl := hl.ext x137
            have hm := hm.ext x137
            have hb5 := hb5.ext x137
            have hbt20 := hbt20.ext x137
            have hmt20 := hmt20.ext x137
            have hsw20 := hsw20.ext x137
            have hbt25 := hbt25.ext x137
            have hmt25 := hmt25.ext x137
            have hsw25 := hsw25.ext x137
            have hs35 := hs35.ext x137
            have hown48 := hown48.ext x137
            refine bindP_mem (fun v59 hv59 => ?_)
            obtain ⟨a59, c59, rfl, hs59⟩ := hv59
            refine bindP_eq ?_
            refine bindP_mem (fun v59 hv59 => ?_)
            obtain ⟨a59, c59, rfl, hs59⟩ := hv59
            refine bindP_nil ?_
            exact OpS_call rfl (o_call2 Tryd.call27 rfl rfl) (sequal_ok (False) _ _ _ _ _ _ wl20 wl20 _ hs59 hs35)
          refine OblL_cons (fun w138 x139 => ?_) ?_
          · skip
            have dl := (fun z hz => (dl z hz).ext x139)
            have dm := (fun z hz => (dm z hz).ext x139)
            have ho := ho.ext x139
            have hl := hl.ext x139
            have hm := hm.ext x139
            have hb5 := hb5.ext x139
            have hbt20 := hbt20.ext x139
            have hmt20 := hmt20.ext x139
            have hsw20 := hsw20.ext x139
            have hbt25 := hbt25.ext x139
            have hmt25 := hmt25.ext x139
            have hsw25 := hsw25.ext x139
            have hs35 := hs35.ext x139
            have hown48 := hown48.ext x139
            refine bindP_eq ?_
            refine bindP_nil ?_
            exact OpS_v rfl (o_not rfl)
          refine OblL_cons (fun w140 x141 => ?_) ?_
          · skip
            have dl := (fun z hz => (dl z hz).ext x141)
            have dm := (fun z hz => (dm z hz).ext x141)
            have ho := ho.ext x141
            have hl := hl.ext x141
            have hm := hm.ext x141
            have hb5 := hb5.ext x141
            have hbt20 := hbt20.ext x141
            have hmt20 := hmt20.ext x141
            have hsw20 := hsw20.ext x141
            have hbt25 := hbt25.ext x141
            have hmt25 := hmt25.ext x141
            have hsw25 := hsw25.ext x141
            have hs35 := hs35.ext x141
            have hown48 := hown48.ext x141
            refine bindP_eq ?_
            refine bindP_eq ?_
            refine bindP_nil ?_
            exact OpS_v rfl (o_moveh (v := .bool _) rfl)
          refine OblL_cons (fun w142 x143 => ?_) ?_
          · skip
            have dl := (fun z hz => (dl z hz).ext x143)
            have dm := (fun z hz => (dm z hz).ext x143)
            have ho := ho.ext x143
            have hl := hl.ext x143
            have hm := hm.ext x143
            have hb5 := hb5.ext x143
            have hbt20 := hbt20.ext x143
            have hmt20 := hmt20.ext x143
            have hsw20 := hsw20.ext x143
            have hbt25 := hbt25.ext x143
            have hmt25 := hmt25.ext x143
            have hsw25 := hsw25.ext x143
            have hs35 := hs35.ext x143
            have hown48 := hown48.ext x143
            refine bindP_eq ?_
            refine bindP_nil ?_
            refine OpS_on 5 63 rfl (congrArg Value.bool (by simp)) ?_
            exact OpS_v rfl (o_moveh (v := .int _ _) rfl)
          refine OblL_cons (fun w144 x145 => ?_) ?_
          · skip
            have dl := (fun z hz => (dl z hz).ext x145)
            have dm := (fun z hz => (dm z hz).ext x145)
            have ho := ho.ext x145
            have hl := hl.ext x145
            have hm := hm.ext x145
            have hb5 := hb5.ext x145
            have hbt20 := hbt20.ext x145
            have hmt20 := hmt20.ext x145
            have hsw20 := hsw20.ext x145
            have hbt25 := hbt25.ext x145
            have hmt25 := hmt25.ext x145
            have hsw25 := hsw25.ext x145
            have hs35 := hs35.ext x145
            have hown48 := hown48.ext x145
            refine bindP_eq ?_
            refine bindP_eq ?_
            refine bindP_nil ?_
            refine OpS_on 5 63 rfl (congrArg Value.bool (by simp)) ?_
            exact OpS_v rfl (o_eql rfl rfl)
          refine OblL_cons (fun w146 x147 => ?_) ?_
          · skip
            have dl := (fun z hz => (dl z hz).ext x147)
            have dm := (fun z hz => (dm z hz).ext x147)
            have ho := ho.ext x147
            have hl := hl.ext x147
            have hm := hm.ext x147
            have hb5 := hb5.ext x147
            have hbt20 := hbt20.ext x147
            have hmt20 := hmt20.ext x147
            have hsw20 := hsw20.ext x147
            have hbt25 := hbt25.ext x147
            have hmt25 := hmt25.ext x147
            have hsw25 := hsw25.ext x147
            have hs35 := hs35.ext x147
            have hown48 := hown48.ext x147
            refine bindP_eq ?_
            refine bindP_eq ?_
            refine bindP_eq ?_
            refine bindP_nil ?_
            refine OpS_on 5 63 rfl (congrArg Value.bool (by simp)) ?_
            exact OpS_v rfl (o_moveh (v := .bool _) rfl)
          refine OblL_cons (fun w148 x149 => ?_) ?_
          · skip
            have dl := (fun z hz => (dl z hz).ext x149)
            have dm := (fun z hz => (dm z hz).ext x149)
            have ho := ho.ext x149
            have hl := hl.ext x149
            have hm := hm.ext x149
            have hb5 := hb5.ext x149
            have hbt20 := hbt20.ext x149
            have hmt20 := hmt20.ext x149
            have hsw20 := hsw20.ext x149
            have hbt25 := hbt25.ext x149
            have hmt25 := hmt25.ext x149
            have hsw25 := hsw25.ext x149
            have hs35 := hs35.ext x149
            have hown48 := hown48.ext x149
            refine bindP_eq ?_
            refine bindP_nil ?_
            exact OpS_off 8 66 rfl (congrArg Value.bool (by rfl)) rfl
          refine OblL_cons (fun w150 x151 => ?_) ?_
          · skip
            have dl := (fun z hz => (dl z hz).ext x151)
            have dm := (fun z hz => (dm z hz).ext x151)
            have ho := ho.ext x151
            have hl := hl.ext x151
            have hm := hm.ext x151
            have hb5 := hb5.ext x151
            have hbt20 := hbt20.ext x151
            have hmt20 := hmt20.ext x151
            have hsw20 := hsw20.ext x151
            have hbt25 := hbt25.ext x151
            have hmt25 := hmt25.ext x151
            have hsw25 := hsw25.ext x151
            have hs35 := hs35.ext x151
            have hown48 := hown48.ext x151
            refine bindP_eq ?_
            refine bindP_nil ?_
            exact OpS_off 8 66 rfl (congrArg Value.bool (by rfl)) rfl
          refine OblL_cons (fun w152 x153 => ?_) ?_
          · skip
            have dl := (fun z hz => (dl z hz).ext x153)
            have dm := (fun z hz => (dm z hz).ext x153)
            have ho := ho.ext x153
            have hl := hl.ext x153
            have hm := hm.ext x153
            have hb5 := hb5.ext x153
            have hbt20 := hbt20.ext x153
            have hmt20 := hmt20.ext x153
            have hsw20 := hsw20.ext x153
            have hbt25 := hbt25.ext x153
            have hmt25 := hmt25.ext x153
            have hsw25 := hsw25.ext x153
            have hs35 := hs35.ext x153
            have hown48 := hown48.ext x153
            refine bindP_eq ?_
            refine bindP_eq ?_
            refine bindP_eq ?_
            refine bindP_nil ?_
            exact OpS_off 8 66 rfl (congrArg Value.bool (by rfl)) rfl
          refine OblL_cons (fun w154 x155 => ?_) ?_
          · skip
            have dl := (fun z hz => (dl z hz).ext x155)
            have dm := (fun z hz => (dm z hz).ext x155)
            have ho := ho.ext x155
            have hl := hl.ext x155
            have hm := hm.ext x155
            have hb5 := hb5.ext x155
            have hbt20 := hbt20.ext x155
            have hmt20 := hmt20.ext x155
            have hsw20 := hsw20.ext x155
            have hbt25 := hbt25.ext x155
            have hmt25 := hmt25.ext x155
            have hsw25 := hsw25.ext x155
            have hs35 := hs35.ext x155
            have hown48 := hown48.ext x155
            refine bindP_eq ?_
            refine bindP_eq ?_
            refine bindP_eq ?_
            refine bindP_eq ?_
            refine bindP_nil ?_
            exact OpS_off 8 66 rfl (congrArg Value.bool (by rfl)) rfl
          refine OblL_cons (fun w156 x157 => ?_) ?_
          · skip
            have dl := (fun z hz => (dl z hz).ext x157)
            have dm := (fun z hz => (dm z hz).ext x157)
            have ho := ho.ext x157
            have hl := hl.ext x157
            have hm := hm.ext x157
            have hb5 := hb5.ext x157
            have hbt20 := hbt20.ext x157
            have hmt20 := hmt20.ext x157
            have hsw20 := hsw20.ext x157
            have hbt25 := hbt25.ext x157
            have hmt25 := hmt25.ext x157
            have hsw25 := hsw25.ext x157
            have hs35 := hs35.ext x157
            have hown48 := hown48.ext x157
            refine bindP_eq ?_
            refine bindP_eq ?_
            refine bindP_nil ?_
            exact OpS_off 8 66 rfl (congrArg Value.bool (by rfl)) rfl
          refine OblL_cons (fun w158 x159 => ?_) ?_
          · skip
            have dl := (fun z hz => (dl z hz).ext x159)
            have dm := (fun z hz => (dm z hz).ext x159)
            have ho := ho.ext x159
            have hl := hl.ext x159
            have hm := hm.ext x159
            have hb5 := hb5.ext x159
            have hbt20 := hbt20.ext x159
            have hmt20 := hmt20.ext x159
            have hsw20 := hsw20.ext x159
            have hbt25 := hbt25.ext x159
            have hmt25 := hmt25.ext x159
            have hsw25 := hsw25.ext x159
            have hs35 := hs35.ext x159
            have hown48 := hown48.ext x159
            refine bindP_eq ?_
            refine bindP_eq ?_
            refine bindP_eq ?_
            refine bindP_nil ?_
            exact OpS_off 8 66 rfl (congrArg Value.bool (by rfl)) rfl
          refine OblL_cons (fun w160 x161 => ?_) ?_
          · skip
            have dl := (fun z hz => (dl z hz).ext x161)
            have dm := (fun z hz => (dm z hz).ext x161)
            have ho := ho.ext x161
            have hl := hl.ext x161
            have hm := hm.ext x161
            have hb5 := hb5.ext x161
            have hbt20 := hbt20.ext x161
            have hmt20 := hmt20.ext x161
            have hsw20 := hsw20.ext x161
            have hbt25 := hbt25.ext x161
            have hmt25 := hmt25.ext x161
            have hsw25 := hsw25.ext x161
            have hs35 := hs35.ext x161
            have hown48 := hown48.ext x161
            refine bindP_eq ?_
            refine bindP_nil ?_
            exact OpS_offU 14 72 rfl rfl
          refine OblL_cons (fun w162 x163 => ?_) ?_
          · skip
            have dl := (fun z hz => (dl z hz).ext x163)
            have dm := (fun z hz => (dm z hz).ext x163)
            have ho := ho.ext x163
            have hl := hl.ext x163
            have hm := hm.ext x163
            have hb5 := hb5.ext x163
            have hbt20 := hbt20.ext x163
            have hmt20 := hmt20.ext x163
            have hsw20 := hsw20.ext x163
            have hbt25 := hbt25.ext x163
            have hmt25 := hmt25.ext x163
            have hsw25 := hsw25.ext x163
            have hs35 := hs35.ext x163
            have hown48 := hown48.ext x163
            refine bindP_eq ?_
            refine bindP_nil ?_
            exact OpS_offU 14 72 rfl rfl
          refine OblL_cons (fun w164 x165 => ?_) ?_
          · skip
            have dl := (fun z hz => (dl z hz).ext x165)
            have dm := (fun z hz => (dm z hz).ext x165)
            have ho := ho.ext x165
            have hl := hl.ext x165
            have hm := hm.ext x165
            have hb5 := hb5.ext x165
            have hbt20 := hbt20.ext x165
            have hmt20 := hmt20.ext x165
            have hsw20 := hsw20.ext x165
            have hbt25 := hbt25.ext x165
            have hmt25 := hmt25.ext x165
            have hsw25 := hsw25.ext x165
            have hs35 := hs35.ext x165
            have hown48 := hown48.ext x165
            refine bindP_eq ?_
            refine bindP_eq ?_
            refine bindP_eq ?_
            refine bindP_eq ?_
            refine bindP_nil ?_
            exact OpS_offU 14 72 rfl rfl
          refine OblL_cons (fun w166 x167 => ?_) ?_
          · skip
            have dl := (fun z hz => (dl z hz).ext x167)
            have dm := (fun z hz => (dm z hz).ext x167)
            have ho := ho.ext x167
            have hl := hl.ext x167
            have hm := hm.ext x167
            have hb5 := hb5.ext x167
            have hbt20 := hbt20.ext x167
            have hmt20 := hmt20.ext x167
            have hsw20 := hsw20.ext x167
            have hbt25 := hbt25.ext x167
            have hmt25 := hmt25.ext x167
            have hsw25 := hsw25.ext x167
            have hs35 := hs35.ext x167
            have hown48 := hown48.ext x167
            refine bindP_eq ?_
            refine bindP_nil ?_
            exact OpS_offU 14 72 rfl rfl
          refine OblL_cons (fun w168 x169 => ?_) ?_
          · skip
            have dl := (fun z hz => (dl z hz).ext x169)
            have dm := (fun z hz => (dm z hz).ext x169)
            have ho := ho.ext x169
            have hl := hl.ext x169
            have hm := hm.ext x169
            have hb5 := hb5.ext x169
            have hbt20 := hbt20.ext x169
            have hmt20 := hmt20.ext x169
            have hsw20 := hsw20.ext x169
            have hbt25 := hbt25.ext x169
            have hmt25 := hmt25.ext x169
            have hsw25 := hsw25.ext x169
            have hs35 := hs35.ext x169
            have hown48 := hown48.ext x169
            refine bindP_eq ?_
            refine bindP_nil ?_
            exact OpS_offU 14 72 rfl rfl
          refine OblL_cons (fun w170 x171 => ?_) ?_
          · skip
            have dl := (fun z hz => (dl z hz).ext x171)
            have dm := (fun z hz => (dm z hz).ext x171)
            have ho := ho.ext x171
            have hl := hl.ext x171
            have hm := hm.ext x171
            have hb5 := hb5.ext x171
            have hbt20 := hbt20.ext x171
            have hmt20 := hmt20.ext x171
            have hsw20 := hsw20.ext x171
            have hbt25 := hbt25.ext x171
            have hmt25 := hmt25.ext x171
            have hsw25 := hsw25.ext x171
            have hs35 := hs35.ext x171
            have hown48 := hown48.ext x171
            refine bindP_eq ?_
            refine bindP_eq ?_
            refine bindP_eq ?_
            refine bindP_nil ?_
            exact OpS_offU 14 72 rfl rfl
          refine OblL_cons (fun w172 x173 => ?_) ?_
          · skip
            have dl := (fun z hz => (dl z hz).ext x173)
            have dm := (fun z hz => (dm z hz).ext x173)
            have ho := ho.ext x173
            have hl := hl.ext x173
            have hm := hm.ext x173
            have hb5 := hb5.ext x173
            have hbt20 := hbt20.ext x173
            have hmt20 := hmt20.ext x173
            have hsw20 := hsw20.ext x173
            have hbt25 := hbt25.ext x173
            have hmt25 := hmt25.ext x173
            have hsw25 := hsw25.ext x173
            have hs35 := hs35.ext x173
            have hown48 := hown48.ext x173
            refine bindP_eq ?_
            refine bindP_eq ?_
            refine bindP_eq ?_
            refine bindP_eq ?_
            refine bindP_nil ?_
            exact OpS_offU 14 72 rfl rfl
          refine OblL_cons (fun w174 x175 => ?_) ?_
          · skip
            have dl := (fun z hz => (dl z hz).ext x175)
            have dm := (fun z hz => (dm z hz).ext x175)
            have ho := ho.ext x175
            have hl := hl.ext x175
            have hm := hm.ext x175
            have hb5 := hb5.ext x175
            have hbt20 := hbt20.ext x175
            have hmt20 := hmt20.ext x175
            have hsw20 := hsw20.ext x175
            have hbt25 := hbt25.ext x175
            have hmt25 := hmt25.ext x175
            have hsw25 := hsw25.ext x175
            have hs35 := hs35.ext x175
            have hown48 := hown48.ext x175
            refine bindP_eq ?_
            refine bindP_eq ?_
            refine bindP_eq ?_
            refine bindP_nil ?_
            exact OpS_offU 14 72 rfl rfl
          refine OblL_cons (fun w176 x177 => ?_) ?_
          · skip
            have dl := (fun z hz => (dl z hz).ext x177)
            have dm := (fun z hz => (dm z hz).ext x177)
            have ho := ho.ext x177
            have hl := hl.ext x177
            have hm := hm.ext x177
            have hb5 := hb5.ext x177
            have hbt20 := hbt20.ext x177
            have hmt20 := hmt20.ext x177
            have hsw20 := hsw20.ext x177
            have hbt25 := hbt25.ext x177
            have hmt25 := hmt25.ext x177
            have hsw25 := hsw25.ext x177
            have hs35 := hs35.ext x177
            have hown48 := hown48.ext x177
            refine bindP_eq ?_
            refine bindP_eq ?_
            refine bindP_eq ?_
            refine bindP_nil ?_
            exact OpS_off 8 66 rfl (congrArg Value.bool (by rfl)) rfl
          refine OblL_cons (fun w178 x179 => ?_) ?_
          · skip
            have dl := (fun z hz => (dl z hz).ext x179)
            have dm := (fun z hz => (dm z hz).ext x179)
            have ho := ho.ext x179
            have hl := hl.ext x179
            have hm := hm.ext x179
            have hb5 := hb5.ext x179
            have hbt20 := hbt20.ext x179
            have hmt20 := hmt20.ext x179
            have hsw20 := hsw20.ext x179
            have hbt25 := hbt25.ext x179
            have hmt25 := hmt25.ext x179
            have hsw25 := hsw25.ext x179
            have hs35 := hs35.ext x179
            have hown48 := hown48.ext x179
            refine bindP_eq ?_
            refine bindP_eq ?_
            refine bindP_eq ?_
            refine bindP_nil ?_
            refine OpS_on 5 63 rfl (congrArg Value.bool (by simp)) ?_
            exact OpS_v rfl (o_pickF (v := .bool _) (congrArg Value.bool (by rfl)) rfl)
          refine OblL_cons (fun w180 x181 => ?_) ?_
          · skip
            have dl := (fun z hz => (dl z hz).ext x181)
            have dm := (fun z hz => (dm z hz).ext x181)
            have ho := ho.ext x181
            have hl := hl.ext x181
            have hm := hm.ext x181
            have hb5 := hb5.ext x181
            have hbt20 := hbt20.ext x181
            have hmt20 := hmt20.ext x181
            have hsw20 := hsw20.ext x181
            have hbt25 := hbt25.ext x181
            have hmt25 := hmt25.ext x181
            have hsw25 := hsw25.ext x181
            have hs35 := hs35.ext x181
            have hown48 := hown48.ext x181
            refine bindP_eq ?_
            refine bindP_eq ?_
            refine bindP_nil ?_
            exact OpS_v rfl (o_pickF (v := .bool _) (congrArg Value.bool (by simp)) rfl)
          exact OblL_nil
        case fin16 =>
          intro w182 x183
          have z184 := Bel.size x183
          replace hX := Bel.ex hX x183
          replace dl := (fun z hz => (dl z hz).ext x183)
          replace dm := (fun z hz => (dm z hz).ext x183)
          replace ho := ho.ext x183
          replace hl := hl.ext x183
          replace hm := hm.ext x183
          replace hb5 := hb5.ext x183
          replace hbt20 := hbt20.ext x183
          replace hmt20 := hmt20.ext x183
          replace hsw20 := hsw20.ext x183
          replace hbt25 := hbt25.ext x183
          replace hmt25 := hmt25.ext x183
          replace hsw25 := hsw25.ext x183
          replace hs35 := hs35.ext x183
          replace hown48 := hown48.ext x183
          refine bindP_eq ?_
          refine bindP_mem (fun v59 hv59 => ?_)
          obtain ⟨a59, c59, rfl, hs59⟩ := hv59
          refine bindP_eq ?_
          refine bindP_eq ?_
          refine bindP_eq ?_
          refine bindP_eq ?_
          refine bindP_eq ?_
          refine bindP_eq ?_
          refine bindP_eq ?_
          refine bindP_eq ?_
          refine bindP_eq ?_
          refine bindP_eq ?_
          refine bindP_eq ?_
          refine bindP_eq ?_
          refine bindP_eq ?_
          refine bindP_eq ?_
          refine bindP_eq ?_
          refine bindP_eq ?_
          refine bindP_eq ?_
          refine bindP_eq ?_
          refine bindP_eq ?_
          refine bindP_eq ?_
          refine bindP_eq ?_
          refine bindP_eq ?_
          refine bindP_eq ?_
          refine bindP_eq ?_
          refine bindP_nil ?_
          refine Rg_nil ?_
          refine W_cond_false rfl ?_
          refine W_skip ?_
          refine W_seq ?_
          refine W_region ?_
          refine Rg_run rfl (o_moveh (v := .pointer _) rfl) ?_
          refine Rg_run rfl (o_moveh (v := .pointer _) rfl) ?_
          refine Rg_enter rfl (o_call2 Tryd.call45 rfl rfl) (Ok.mono (teq_ok _ _ _ _ hbt20 hmt20 _ _ _ hbt20 hmt20) ?_)
          rintro _ w185 ⟨rfl, x186⟩
          have z187 := Bel.size x186
          replace hX := Bel.ex hX x186
          replace dl := (fun z hz => (dl z hz).ext x186)
          replace dm := (fun z hz => (dm z hz).ext x186)
          replace ho := ho.ext x186
          replace hl := hl.ext x186
          replace hm := hm.ext x186
          replace hb5 := hb5.ext x186
          replace hbt20 := hbt20.ext x186
          replace hmt20 := hmt20.ext x186
          replace hsw20 := hsw20.ext x186
          replace hbt25 := hbt25.ext x186
          replace hmt25 := hmt25.ext x186
          replace hsw25 := hsw25.ext x186
          replace hs35 := hs35.ext x186
          replace hown48 := hown48.ext x186
          refine Rg_run rfl (o_moveh (v := .bool _) rfl) ?_
          refine Rg_on 3 87 rfl (congrArg Value.bool (by exact eqT_self _)) ?_
          refine Rg_run rfl (o_moveh (v := .pointer _) rfl) ?_
          refine Rg_on 3 87 rfl (congrArg Value.bool (by exact eqT_self _)) ?_
          refine Rg_run rfl (o_moveh (v := .pointer _) rfl) ?_
          refine Rg_on 3 87 rfl (congrArg Value.bool (by exact eqT_self _)) ?_
          refine Rg_enter rfl (o_call2 Tryd.call45 rfl rfl) (Ok.mono (teq_ok _ _ _ _ hbt20 hmt20 _ _ _ hbt25 hmt25) ?_)
          rintro _ w188 ⟨rfl, x189⟩
          have z190 := Bel.size x189
          replace hX := Bel.ex hX x189
          replace dl := (fun z hz => (dl z hz).ext x189)
          replace dm := (fun z hz => (dm z hz).ext x189)
          replace ho := ho.ext x189
          replace hl := hl.ext x189
          replace hm := hm.ext x189
          replace hb5 := hb5.ext x189
          replace hbt20 := hbt20.ext x189
          replace hmt20 := hmt20.ext x189
          replace hsw20 := hsw20.ext x189
          replace hbt25 := hbt25.ext x189
          replace hmt25 := hmt25.ext x189
          replace hsw25 := hsw25.ext x189
          replace hs35 := hs35.ext x189
          replace hown48 := hown48.ext x189
          refine Rg_on 3 87 rfl (congrArg Value.bool (by exact eqT_self _)) ?_
          refine Rg_run rfl (o_moveh (v := .slice _ _ _) rfl) ?_
          refine Rg_on 3 87 rfl (congrArg Value.bool (by exact eqT_self _)) ?_
          refine Rg_run rfl (o_moveh (v := .pointer _) rfl) ?_
          refine Rg_on 3 87 rfl (congrArg Value.bool (by exact eqT_self _)) ?_
          refine Rg_enter rfl (o_call2 Tryd.call34 rfl rfl) (Ok.mono (tbelow_ok _ _ _ tt25 hbt25 hmt25 (by omega) hTr25.okl _ (by decide)) ?_)
          rintro v93 w191 ⟨l93, hsr93, hown93, x192⟩
          have z193 := Bel.size x192
          replace hX := Bel.ex hX x192
          replace dl := (fun z hz => (dl z hz).ext x192)
          replace dm := (fun z hz => (dm z hz).ext x192)
          replace ho := ho.ext x192
          replace hl := hl.ext x192
          replace hm := hm.ext x192
          replace hb5 := hb5.ext x192
          replace hbt20 := hbt20.ext x192
          replace hmt20 := hmt20.ext x192
          replace hsw20 := hsw20.ext x192
          replace hbt25 := hbt25.ext x192
          replace hmt25 := hmt25.ext x192
          replace hsw25 := hsw25.ext x192
          replace hs35 := hs35.ext x192
          replace hown48 := hown48.ext x192
          replace hown93 := hown93.mono (D' := fun g => w.heap.size ≤ g) (fun g h1 h2 => by omega)
          have e93 : l93 = wl25 := below_all hTr25 hsr93; subst l93; obtain ⟨a93, c93, hv93, hs93⟩ := hown93.sl encS_ok; subst hv93
          refine Rg_on 3 87 rfl (congrArg Value.bool (by exact eqT_self _)) ?_
          refine Rg_enter rfl (o_call2 Tryd.call27 rfl rfl) (Ok.mono (sequal_ok (False) _ _ _ _ _ _ wl20 wl25 _ hs35 hs93) ?_)
          rintro _ w194 ⟨rfl, x195⟩
          have z196 := Bel.size x195
          replace hX := Bel.ex hX x195
          replace dl := (fun z hz => (dl z hz).ext x195)
          replace dm := (fun z hz => (dm z hz).ext x195)
          replace ho := ho.ext x195
          replace hl := hl.ext x195
          replace hm := hm.ext x195
          replace hb5 := hb5.ext x195
          replace hbt20 := hbt20.ext x195
          replace hmt20 := hmt20.ext x195
          replace hsw20 := hsw20.ext x195
          replace hbt25 := hbt25.ext x195
          replace hmt25 := hmt25.ext x195
          replace hsw25 := hsw25.ext x195
          replace hs35 := hs35.ext x195
          replace hown48 := hown48.ext x195
          replace hown93 := hown93.ext x195
          replace hs93 := hs93.ext x195
          refine Rg_on 3 87 rfl (congrArg Value.bool (by exact eqT_self _)) ?_
          refine Rg_run rfl (o_beql Tryd.underlying4 rfl rfl) ?_
          refine Rg_run rfl (o_pickT (v := .bool _) (congrArg Value.bool (by exact eqT_self _)) rfl) ?_
          refine Rg_run rfl (o_moveh (v := .bool _) rfl) ?_
          refine Rg_on 13 97 rfl (congrArg Value.bool (by rw [eqT_iff hTr20 hTr25]; simp)) ?_
          refine Rg_run rfl (o_moveh (v := .pointer _) rfl) ?_
          refine Rg_on 13 97 rfl (congrArg Value.bool (by rw [eqT_iff hTr20 hTr25]; simp)) ?_
          refine Rg_run rfl (o_moveh (v := .pointer _) rfl) ?_
          refine Rg_on 13 97 rfl (congrArg Value.bool (by rw [eqT_iff hTr20 hTr25]; simp)) ?_
          refine Rg_enter rfl (o_call2 Tryd.call45 rfl rfl) (Ok.mono (teq_ok _ _ _ _ hbt20 hmt20 _ _ _ hbt25 hmt25) ?_)
          rintro _ w197 ⟨rfl, x198⟩
          have z199 := Bel.size x198
          replace hX := Bel.ex hX x198
          replace dl := (fun z hz => (dl z hz).ext x198)
          replace dm := (fun z hz => (dm z hz).ext x198)
          replace ho := ho.ext x198
          replace hl := hl.ext x198
          replace hm := hm.ext x198
          replace hb5 := hb5.ext x198
          replace hbt20 := hbt20.ext x198
          replace hmt20 := hmt20.ext x198
          replace hsw20 := hsw20.ext x198
          replace hbt25 := hbt25.ext x198
          replace hmt25 := hmt25.ext x198
          replace hsw25 := hsw25.ext x198
          replace hs35 := hs35.ext x198
          replace hown48 := hown48.ext x198
          replace hown93 := hown93.ext x198
          replace hs93 := hs93.ext x198
          refine Rg_on 13 97 rfl (congrArg Value.bool (by rw [eqT_iff hTr20 hTr25]; simp)) ?_
          refine Rg_run rfl (o_moveh (v := .pointer _) rfl) ?_
          refine Rg_on 13 97 rfl (congrArg Value.bool (by rw [eqT_iff hTr20 hTr25]; simp)) ?_
          refine Rg_run rfl (o_moveh (v := .pointer _) rfl) ?_
          refine Rg_on 13 97 rfl (congrArg Value.bool (by rw [eqT_iff hTr20 hTr25]; simp)) ?_
          refine Rg_enter rfl (o_call2 Tryd.call45 rfl rfl) (Ok.mono (teq_ok _ _ _ _ hbt25 hmt25 _ _ _ hbt20 hmt20) ?_)
          rintro _ w200 ⟨rfl, x201⟩
          have z202 := Bel.size x201
          replace hX := Bel.ex hX x201
          replace dl := (fun z hz => (dl z hz).ext x201)
          replace dm := (fun z hz => (dm z hz).ext x201)
          replace ho := ho.ext x201
          replace hl := hl.ext x201
          replace hm := hm.ext x201
          replace hb5 := hb5.ext x201
          replace hbt20 := hbt20.ext x201
          replace hmt20 := hmt20.ext x201
          replace hsw20 := hsw20.ext x201
          replace hbt25 := hbt25.ext x201
          replace hmt25 := hmt25.ext x201
          replace hsw25 := hsw25.ext x201
          replace hs35 := hs35.ext x201
          replace hown48 := hown48.ext x201
          replace hown93 := hown93.ext x201
          replace hs93 := hs93.ext x201
          refine Rg_on 13 97 rfl (congrArg Value.bool (by rw [eqT_iff hTr20 hTr25]; simp)) ?_
          refine Rg_run rfl (o_beql Tryd.underlying4 rfl rfl) ?_
          refine Rg_run rfl (o_pickT (v := .bool _) (congrArg Value.bool (by rw [eqT_iff hTr20 hTr25]; simp)) rfl) ?_
          refine Rg_run rfl (o_assignh (v := .bool _) rfl) ?_
          refine Rg_nil ?_
          refine W_ret ?_
          refine ⟨_, res_tmp rfl rfl, ?_⟩
          refine ⟨congrArg Value.bool ?_, hX⟩
          all_goals (rw [eqT_comm hTr20 hTr25]; simp)

end Go.Proofs.YtnhbdlllkmnpfaaDoor
