/- Walks, printed by program: each theorem says what a function of the translation returns. -/
import Derived.Test.YtndlnfdaeipifaaGreatDoorWlaw13b
namespace Go.Proofs.YtndlnfdaeipifaaGreatDoor
open Go Go.Lx Go.RowKit
set_option maxRecDepth 100000
set_option linter.unusedVariables false
set_option linter.unusedSimpArgs false
set_option linter.unnecessarySimpa false
def GbPF (F : Nat → Prop) (w : World) (p : Value) (e : Int) (m : List Ent) : Prop := (e = 0 → GbF F w p m) ∧ (e ≠ 0 → p = .pointer none)
theorem gb_newF {F D : Nat → Prop} {w : World} {p : Nat} {T : TypeId} {a : Option Addr} {c k : Nat} {m : List Ent} {e : TypeId} (hp : F p) (hD : ∀ g, g < w.heap.size → D g → F g) (hb : Box w p T [.slice a k c]) (hk : k = m.length) (ho : Own encE 4 e D w (.slice a k c) m) : GbF F w (.pointer (some ⟨p, 0, none⟩)) m := by
  subst hk
  exact ⟨p, a, c, rfl, hp, hb.at, (ho.slA encE_ok).mono hD⟩
def RdG (w : World) (q : Value) (e : Int) : Option (List Ent) → Prop
  | some m => e = 0 ∧ GbIs w q m
  | none => e = 6 ∧ q = .pointer none
theorem gnewF_ok (w : World) : Ok Tryz.prog 29 #[] w fun v w' => ∃ p, v = .pointer (some ⟨p, 0, none⟩) ∧ GbF (Fsh w w') w' (.pointer (some ⟨p, 0, none⟩)) [] ∧ Ext False w w' := by
  refine Ok_of_W 3 Tryz.func29 rfl rfl rfl ?_
  have hX : Ext False w w := Bel.refl _ _
  refine W_seq ?_
  refine W_region ?_
  refine Rg_run rfl o_assignc ?_
  refine Rg_nil ?_
  refine W_seq ?_
  refine W_region ?_
  refine Rg_run rfl (o_build (cells := [.slice none 0 0]) (vs := []) rfl (by kernel_rfl)) ?_
  refine Rg_newB rfl (o_box (v := .agg _) rfl) ?_
  intro b2 w1 x2 hge2 hb2
  have hlt2 := hb2.lt
  have z3 := Bel.size x2
  replace hX := Bel.ex hX x2
  refine Rg_run rfl (o_assignh (v := .pointer _) rfl) ?_
  refine Rg_nil ?_
  refine W_ret ?_
  refine ⟨_, res_tmp rfl rfl, ?_⟩
  change Box _ _ _ [.slice none 0 0] at hb2
  exact ⟨b2, rfl, ⟨b2, none, 0, rfl, ⟨by omega, hb2.lt⟩, hb2.at, Sl.none⟩, hX⟩

theorem ggrantF_ok (v0 : Value) (m : List Ent) (w : World) (hb0 : GbIs w v0 m) (hm : OkG m) (e : Ent) (he : e.p.ok) : Ok Tryz.prog 30 #[v0, .int .i64 e.r, .agg (encP e.p).toArray] w fun v w' => (∃ p, v = .tuple #[p, .int .i64 (grantR m e).2] ∧ GbPF (Fsh w w') w' p (grantR m e).2 (grantR m e).1) ∧ Ext False w w' := by
  obtain ⟨pb, ab, cb, rfl, hba, hb⟩ := hb0
  have hbl := hba.lt
  have hlen : m.length ≤ 1000 := hm.len
  refine Ok_of_W 54 Tryz.func30 rfl rfl rfl ?_
  have hX : Ext False w w := Bel.refl _ _
  refine W_seq ?_
  refine W_region ?_
  refine Rg_newB rfl (o_box (v := .agg _) rfl) ?_
  intro b5 w1 x2 hge5 hb5
  have hlt5 := hb5.lt
  change Box _ _ _ (encP _) at hb5
  have z3 := Bel.size x2
  replace hX := Bel.ex hX x2
  replace hb := hb.ext x2
  replace hba := hba.ext x2
  refine Rg_run rfl o_assignc ?_
  refine Rg_run rfl o_assignc ?_
  refine Rg_nil ?_
  refine W_seq ?_
  refine W_seq ?_
  refine W_region ?_
  refine Rg_run rfl (o_moveh (v := .pointer _) rfl) ?_
  refine Rg_run rfl (o_peq Tryz.underlying25 rfl rfl) ?_
  refine Rg_run rfl (o_moveh (v := .bool _) rfl) ?_
  refine Rg_on 2 14 rfl rfl ?_
  refine Rg_run rfl (o_moveh (v := .int _ _) rfl) ?_
  refine Rg_on 2 14 rfl rfl ?_
  refine Rg_enter rfl (o_call1 Tryz.call63 rfl) (Ok.mono (grole_ok _ _) ?_)
  rintro _ w4 ⟨rfl, x5⟩
  have z6 := Bel.size x5
  replace hX := Bel.ex hX x5
  replace hb := hb.ext x5
  replace hba := hba.ext x5
  replace hb5 := hb5.ext x5
  refine Rg_on 2 14 rfl rfl ?_
  refine Rg_run rfl (o_not rfl) ?_
  refine Rg_run rfl (o_pickF (v := .bool _) rfl rfl) ?_
  refine Rg_nil ?_
  refine W_cond rfl (fun hc1 => ?_) (fun hc1 => ?_)
  · skip
    have hr : e.r < 1 ∨ 63 < e.r := by simp at hc1; omega
    refine W_seq ?_
    refine W_region ?_
    refine Rg_run rfl o_assignc ?_
    refine Rg_run rfl o_assignc ?_
    refine Rg_nil ?_
    refine W_ret ?_
    refine ⟨_, res_tmp2 rfl rfl rfl, ?_⟩
    have e0 : grantR m e = (m, 1) := by rw [grantR, if_pos hr]
    rw [e0]
    exact ⟨⟨_, rfl, ⟨fun h => by simp at h, fun _ => rfl⟩⟩, hX⟩
  · skip
    have hr : ¬ (e.r < 1 ∨ 63 < e.r) := by simp at hc1; omega
    refine W_skip ?_
    refine W_seq ?_
    refine W_seq ?_
    refine W_region ?_
    refine Rg_run rfl (o_loadS Tryz.isAgg52 Tryz.sizeOf52 rfl hb5.at rfl) ?_
    refine Rg_enter rfl (o_call1 Tryz.call64 rfl) (Ok.mono (check_ok (False) _ he _) ?_)
    rintro _ w7 ⟨rfl, x8⟩
    have z9 := Bel.size x8
    replace hX := Bel.ex hX x8
    replace hb := hb.ext x8
    replace hba := hba.ext x8
    replace hb5 := hb5.ext x8
    refine Rg_run rfl (o_assignh (v := .int _ _) rfl) ?_
    refine Rg_nil ?_
    refine W_seq ?_
    refine W_region ?_
    refine Rg_run rfl (o_moveh (v := .int _ _) rfl) ?_
    refine Rg_run rfl (o_neq rfl rfl) ?_
    refine Rg_nil ?_
    refine W_cond rfl (fun hc2 => ?_) (fun hc2 => ?_)
    · skip
      have hk0 : checkS e.p ≠ 0 := by simpa using hc2
      refine W_seq ?_
      refine W_region ?_
      refine Rg_run rfl (o_moveh (v := .int _ _) rfl) ?_
      refine Rg_run rfl o_assignc ?_
      refine Rg_run rfl (o_assignh (v := .int _ _) rfl) ?_
      refine Rg_nil ?_
      refine W_ret ?_
      refine ⟨_, res_tmp2 rfl rfl rfl, ?_⟩
      have e0 : grantR m e = (m, checkS e.p) := by rw [grantR, if_neg hr, if_pos hk0]
      rw [e0]
      exact ⟨⟨_, rfl, ⟨fun h => absurd h hk0, fun _ => rfl⟩⟩, hX⟩
    · skip
      have hk0 : ¬ checkS e.p ≠ 0 := by simpa using hc2
      have hve : Ve e := ⟨by omega, by omega, he, by omega⟩
      refine W_skip ?_
      refine W_seq ?_
      refine W_region ?_
      refine Rg_run rfl (o_moveh (v := .int _ _) rfl) ?_
      refine Rg_run rfl (o_loadS Tryz.isAgg52 Tryz.sizeOf52 rfl hb5.at rfl) ?_
      refine Rg_run rfl (o_build (cells := encE e) (vs := [(0, .int _ _), (1, .agg _)]) rfl (by kernel_rfl)) ?_
      refine Rg_alst rfl rfl Tryz.zeroValue76 rfl Tryz.sizeOf76 (fun _ => rfl) rfl rfl ?_
      intro b9 w10 x11 hge9 hb9
      have hlt9 := hb9.lt
      change Box _ _ _ (encE _) at hb9
      have z12 := Bel.size x11
      replace hX := Bel.ex hX x11
      replace hb := hb.ext x11
      replace hba := hba.ext x11
      refine Rg_nil ?_
      refine W_seq ?_
      apply W_draw (β := False) [peq _, peq _, peq _, peq _, peq _, peq _, peq _, peq _, peq _, peq _, peq _] 11 mixed (by kernel_rfl) rfl ⟨peq_stable _, peq_stable _, peq_stable _, peq_stable _, peq_stable _, peq_stable _, peq_stable _, peq_stable _, peq_stable _, peq_stable _, peq_stable _, trivial⟩ ?ob7 ?fin7
      case ob7 =>
        refine OblL_cons (fun w13 x14 => ?_) ?_
        · skip
          have z15 := Bel.size x14
          refine bindP_nil ?_
          exact OpS_v rfl (o_moveh (v := .pointer _) rfl)
        refine OblL_cons (fun w16 x17 => ?_) ?_
        · skip
          have z18 := Bel.size x17
          refine bindP_eq ?_
          refine bindP_nil ?_
          exact OpS_v rfl (o_nilc rfl)
        refine OblL_cons (fun w19 x20 => ?_) ?_
        · skip
          have z21 := Bel.size x20
          refine bindP_eq ?_
          refine bindP_nil ?_
          exact OpS_v rfl (o_fa Tryz.underlying102 rfl Tryz.sizeOf34 rfl)
        refine OblL_cons (fun w22 x23 => ?_) ?_
        · skip
          have z24 := Bel.size x23
          have hba := hba.ext x23
          refine bindP_eq ?_
          refine bindP_nil ?_
          exact OpS_v rfl (o_load1 Tryz.isAgg34 rfl (hba.get 0 rfl))
        refine OblL_cons (fun w25 x26 => ?_) ?_
        · skip
          have z27 := Bel.size x26
          have hb9 := hb9.ext x26
          refine bindP_nil ?_
          exact OpS_v rfl (o_loadS Tryz.isAgg76 Tryz.sizeOf76 rfl hb9.at rfl)
        refine OblL_cons (fun w28 x29 => ?_) ?_
        · skip
          have z30 := Bel.size x29
          have hb := hb.ext x29
          refine bindP_eq ?_
          refine bindP_eq ?_
          refine bindP_nil ?_
          exact OpS_call rfl (o_call3 Tryz.call65 rfl rfl rfl) (gbs_ok _ _ _ m e _ hb hm hve)
        refine OblL_cons (fun w31 x32 => ?_) ?_
        · skip
          have z33 := Bel.size x32
          refine bindP_eq ?_
          refine bindP_nil ?_
          exact OpS_v rfl (o_moveh (v := .tuple _) rfl)
        refine OblL_cons (fun w34 x35 => ?_) ?_
        · skip
          have z36 := Bel.size x35
          refine bindP_eq ?_
          refine bindP_nil ?_
          exact OpS_v rfl (o_extract rfl rfl)
        refine OblL_cons (fun w37 x38 => ?_) ?_
        · skip
          have z39 := Bel.size x38
          refine bindP_eq ?_
          refine bindP_nil ?_
          exact OpS_v rfl (o_extract rfl rfl)
        refine OblL_cons (fun w40 x41 => ?_) ?_
        · skip
          have z42 := Bel.size x41
          refine bindP_eq ?_
          refine bindP_eq ?_
          refine bindP_eq ?_
          refine bindP_eq ?_
          refine bindP_eq ?_
          refine bindP_eq ?_
          refine bindP_eq ?_
          refine bindP_eq ?_
          refine bindP_eq ?_
          refine bindP_eq ?_
          refine bindP_nil ?_
          exact OpS_v rfl (o_assignh (v := .int _ _) rfl)
        refine OblL_cons (fun w43 x44 => ?_) ?_
        · skip
          have z45 := Bel.size x44
          refine bindP_eq ?_
          refine bindP_eq ?_
          refine bindP_eq ?_
          refine bindP_eq ?_
          refine bindP_eq ?_
          refine bindP_eq ?_
          refine bindP_eq ?_
          refine bindP_eq ?_
          refine bindP_eq ?_
          refine bindP_eq ?_
          refine bindP_eq ?_
          refine bindP_eq ?_
          refine bindP_nil ?_
          exact OpS_v rfl (o_assignh (v := .bool _) rfl)
        exact OblL_nil
      case fin7 =>
        intro w46 x47
        have z48 := Bel.size x47
        replace hX := Bel.ex hX x47
        replace hb := hb.ext x47
        replace hba := hba.ext x47
        replace hb9 := hb9.ext x47
        refine bindP_eq ?_
        refine bindP_eq ?_
        refine bindP_eq ?_
        refine bindP_eq ?_
        refine bindP_eq ?_
        refine bindP_eq ?_
        refine bindP_eq ?_
        refine bindP_eq ?_
        refine bindP_eq ?_
        refine bindP_eq ?_
        refine bindP_eq ?_
        refine bindP_nil ?_
        refine Rg_nil ?_
        refine W_seq ?_
        refine W_seq ?_
        refine W_region ?_
        refine Rg_run rfl (o_moveh (v := .bool _) rfl) ?_
        refine Rg_nil ?_
        refine W_cond rfl (fun hc3 => ?_) (fun hc3 => ?_)
        · skip
          have hin : e ∈ m := of_decide_eq_true hc3
          refine W_seq ?_
          refine W_region ?_
          refine Rg_run rfl o_assignc ?_
          refine Rg_run rfl o_assignc ?_
          refine Rg_nil ?_
          refine W_ret ?_
          refine ⟨_, res_tmp2 rfl rfl rfl, ?_⟩
          have e0 : grantR m e = (m, 5) := by rw [grantR, if_neg hr, if_neg hk0, if_pos hin]
          rw [e0]
          exact ⟨⟨_, rfl, ⟨fun h => by simp at h, fun _ => rfl⟩⟩, hX⟩
        · skip
          have hin : e ∉ m := of_decide_eq_false hc3
          refine W_skip ?_
          refine W_seq ?_
          refine W_seq ?_
          refine W_region ?_
          refine Rg_run rfl (o_moveh (v := .pointer _) rfl) ?_
          refine Rg_run rfl (o_nilc rfl) ?_
          refine Rg_run rfl (o_fa Tryz.underlying102 rfl Tryz.sizeOf34 rfl) ?_
          refine Rg_run rfl (o_load1 Tryz.isAgg34 rfl (hba.get 0 rfl)) ?_
          refine Rg_run rfl (o_llen Tryz.underlying34 rfl) ?_
          refine Rg_run rfl (o_geq rfl rfl) ?_
          refine Rg_nil ?_
          refine W_cond rfl (fun hc4 => ?_) (fun hc4 => ?_)
          · skip
            replace hc4 := of_decide_eq_true hc4
            refine W_seq ?_
            refine W_region ?_
            refine Rg_run rfl o_assignc ?_
            refine Rg_run rfl o_assignc ?_
            refine Rg_nil ?_
            refine W_ret ?_
            refine ⟨_, res_tmp2 rfl rfl rfl, ?_⟩
            have e0 : grantR m e = (m, 14) := by rw [grantR, if_neg hr, if_neg hk0, if_neg hin, if_pos (by omega)]
            rw [e0]
            exact ⟨⟨_, rfl, ⟨fun h => by simp at h, fun _ => rfl⟩⟩, hX⟩
          · skip
            replace hc4 := of_decide_eq_false hc4
            refine W_skip ?_
            refine W_seq ?_
            obtain ⟨n1, hn1⟩ : ∃ n, n = w46.heap.size := ⟨_, rfl⟩
            apply W_drawC (β := False) (fun _ => 0) [peqC _, peqC _, peqC _, peqC _, (postOwn encE 4 76 1 m), peqC _, peqC _, (fun v w c => ∃ a, v = .slice a 1 1 ∧ postOwn encE 4 76 2 [e] v w c)] [0, 0, 0, 0, 1, 0, 0, 2] 8 mixed (by kernel_rfl) (by kernel_rfl) rfl ⟨peqC_stable _ _, peqC_stable _ _, peqC_stable _ _, peqC_stable _ _, (postOwn_stable), peqC_stable _ _, peqC_stable _ _, (postBs_stable), trivial⟩ ?ob12 ?fin12
            case ob12 =>
              refine OblC_cons (fun w49 c51 x50 hc052 hk53 => ?_) ?_
              · skip
                replace x50 := RelG.ext0 x50
                have z54 := Bel.size x50
                refine bindC_nil ?_
                exact OpC_v rfl (o_moveh (v := .pointer _) rfl)
              refine OblC_cons (fun w55 c57 x56 hc058 hk59 => ?_) ?_
              · skip
                replace x56 := RelG.ext0 x56
                have z60 := Bel.size x56
                refine bindC_eq ?_
                refine bindC_nil ?_
                exact OpC_v rfl (o_nilc rfl)
              refine OblC_cons (fun w61 c63 x62 hc064 hk65 => ?_) ?_
              · skip
                replace x62 := RelG.ext0 x62
                have z66 := Bel.size x62
                refine bindC_eq ?_
                refine bindC_nil ?_
                exact OpC_v rfl (o_fa Tryz.underlying102 rfl Tryz.sizeOf34 rfl)
              refine OblC_cons (fun w67 c69 x68 hc070 hk71 => ?_) ?_
              · skip
                replace x68 := RelG.ext0 x68
                have z72 := Bel.size x68
                have hba := hba.ext x68
                refine bindC_eq ?_
                refine bindC_nil ?_
                exact OpC_v rfl (o_load1 Tryz.isAgg34 rfl (hba.get 0 rfl))
              refine OblC_cons (fun w73 c75 x74 hc076 hk77 => ?_) ?_
              · skip
                replace x74 := RelG.ext0 x74
                have z78 := Bel.size x74
                have hb := hb.ext x74
                refine bindC_eq ?_
                refine bindC_nil ?_
                exact OpC_own rfl (o_call1 Tryz.call68 rfl) (gclone_ok _ _ _ hb.trd (by omega))
              refine OblC_cons (fun w79 c81 x80 hc082 hk83 => ?_) ?_
              · skip
                replace x80 := RelG.ext0 x80
                have z84 := Bel.size x80
                refine bindC_nil ?_
                exact OpC_v rfl (o_moveh (v := .int _ _) rfl)
              refine OblC_cons (fun w85 c87 x86 hc088 hk89 => ?_) ?_
              · skip
                replace x86 := RelG.ext0 x86
                have z90 := Bel.size x86
                have hb9 := hb9.ext x86
                refine bindC_nil ?_
                exact OpC_v rfl (o_loadS Tryz.isAgg76 Tryz.sizeOf76 rfl hb9.at rfl)
              refine OblC_cons (fun w91 c93 x92 hc094 hk95 => ?_) ?_
              · skip
                replace x92 := RelG.ext0 x92
                have z96 := Bel.size x92
                refine bindC_eq ?_
                refine bindC_nil ?_
                exact OpC_bs (vs := [.agg _]) [e] encE_ok el_ent rfl rfl ⟨rfl, trivial⟩ rfl rfl rfl rfl
              exact OblC_nil
            case fin12 =>
              intro w97 c99 x98 hc0100
              replace x98 := RelG.ext0 x98
              have z101 := Bel.size x98
              replace hX := Bel.ex hX x98
              refine bindC_eq ?_
              refine bindC_eq ?_
              refine bindC_eq ?_
              refine bindC_eq ?_
              refine bindC_mem (fun v47 hv47 => ?_)
              refine bindC_eq ?_
              refine bindC_eq ?_
              refine bindC_mem (fun v50 hv50 => ?_)
              refine bindC_nil ?_
              change Own _ _ _ _ _ _ _ at hv47
              replace hv47 := Own.mono hv47 (D' := fun g => n1 ≤ g ∧ c99 g = 1) (fun g h1 h2 => ⟨Nat.le_of_not_lt fun q => by have h := hc0100 g (by omega); rw [h2] at h; simp at h, h2⟩)
              obtain ⟨a50, hva50, ho50⟩ := hv50
              subst hva50
              change Own _ _ _ _ _ _ _ at ho50
              replace ho50 := Own.mono ho50 (D' := fun g => n1 ≤ g ∧ c99 g = 2) (fun g h1 h2 => ⟨Nat.le_of_not_lt fun q => by have h := hc0100 g (by omega); rw [h2] at h; simp at h, h2⟩)
              refine Rg_enter rfl (o_call3 Tryz.call67 rfl rfl rfl) (Ok.mono (entinsV_ok _ _ _ (cntG m e) _ _ _ _ _ hv47 ho50 (cnt_bs hm hve).len (by omega) (fun q h1 h2 => by omega)) ?_)
              rintro v51 w102 ⟨hown51, x103⟩
              have z104 := Bel.size x103
              replace hX := Bel.out hX x103 (fun g h1 h2 => by first | exact h2 | omega)
              obtain ⟨a51, c51, hv51, -⟩ := hown51.sl encE_ok
              subst hv51
              refine Rg_run rfl (o_build (cells := [.slice a51 (m.take (cntG m e) ++ ([e] : List Ent) ++ m.drop (cntG m e)).length c51]) (vs := [(0, .slice _ _ _)]) rfl (by kernel_rfl)) ?_
              refine Rg_newB rfl (o_box (v := .agg _) rfl) ?_
              intro b53 w105 x106 hge53 hb53
              have hlt53 := hb53.lt
              have z107 := Bel.size x106
              replace hX := Bel.ex hX x106
              replace hown51 := hown51.ext x106
              refine Rg_run rfl (o_assignh (v := .pointer _) rfl) ?_
              refine Rg_run rfl o_assignc ?_
              refine Rg_nil ?_
              refine W_ret ?_
              refine ⟨_, res_tmp2 rfl rfl rfl, ?_⟩
              obtain ⟨n9, hn9⟩ : ∃ n, n = w105.heap.size := ⟨_, rfl⟩
              change Box _ _ _ [.slice a51 (m.take (cntG m e) ++ ([e] : List Ent) ++ m.drop (cntG m e)).length c51] at hb53
              have e0 : grantR m e = (insGo cmpE e m, 0) := by rw [grantR, if_neg hr, if_neg hk0, if_neg hin, if_neg (by omega)]
              rw [e0]
              refine ⟨⟨_, rfl, ⟨fun _ => ?_, fun h => absurd rfl h⟩⟩, hX⟩
              have hb53l := hb53.lt
              have hg := gb_newF (F := fun g => w.heap.size ≤ g ∧ g < n9) ⟨by omega, by omega⟩ (fun g h1 h2 => ⟨by omega, by omega⟩) hb53 rfl hown51
              rw [(cnt_bs hm hve).ins hm hve hin] at hg
              exact hg.mono (fun g h1 h2 => ⟨by omega, by omega⟩)

theorem beqb_ok (v0 v1 : Value) (A C : Nat → Prop) (x y : List UInt8) (w : World) (hx : Rd encB 1 A w v0 x) (hy : Rd encB 1 C w v1 y) : Ok Tryz.prog 93 #[v0, v1] w fun v w' => v = .bool (x == y) ∧ Ext False w w' := by
  obtain ⟨a, c, rfl, hx⟩ := hx
  obtain ⟨b, d, rfl, hy⟩ := hy
  refine Ok_of_W 10 Tryz.func93 rfl rfl rfl ?_
  have hX : Ext False w w := Bel.refl _ _
  refine W_seq ?_
  refine W_region ?_
  refine Rg_run rfl o_assignc ?_
  refine Rg_nil ?_
  refine W_seq ?_
  refine W_region ?_
  refine Rg_run rfl (o_moveh (v := .slice _ _ _) rfl) ?_
  refine Rg_run rfl (o_bs Tryz.underlying49 Tryz.underlying5 Tryz.underlying9 rfl hx) ?_
  refine Rg_run rfl (o_moveh (v := .slice _ _ _) rfl) ?_
  refine Rg_run rfl (o_bs Tryz.underlying49 Tryz.underlying5 Tryz.underlying9 rfl hy) ?_
  refine Rg_run rfl (o_seql rfl rfl) ?_
  refine Rg_run rfl (o_assignh (v := .bool _) rfl) ?_
  refine Rg_nil ?_
  refine W_ret ?_
  refine ⟨_, res_tmp rfl rfl, ?_⟩
  refine ⟨congrArg Value.bool ?_, hX⟩
  all_goals (rfl)

end Go.Proofs.YtndlnfdaeipifaaGreatDoor
