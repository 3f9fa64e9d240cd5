/- Walks, printed by program: each theorem says what a function of the translation returns. -/
import Derived.Test.YtncmjgmlnnenhaaDoorWlaw22a
namespace Go.Proofs.YtncmjgmlnnenhaaDoor
open Go Go.Lx Go.RowKit
set_option maxRecDepth 100000
set_option linter.unusedVariables false
set_option linter.unusedSimpArgs false
set_option linter.unnecessarySimpa false
theorem seffE_ok (v0 : Value) (m : List RS) (w : World) (hb0 : BkIs w v0 m) (hm : OkM m) (n : Int) (hn : -1000 ≤ n ∧ n ≤ 1000) (s : SV) (Gs : Nat → Prop) (hs : Sl encU 1 Gs w s.a s.c (wl s.x)) (p : Option Addr) (H : Option OV) (Fh : Nat → Prop) (hH : HrAt Fh w (.pointer p) H) (hT : Tb w) {e : W64} (he : effW (fun y => closH H (memW y 64)) m n s.x = e) : Ok Tryd.prog 15 #[v0, .int .i64 n, .agg (encSV s).toArray, .pointer p] w fun v w' => (∃ a c, v = .agg (encSV ⟨a, c, e⟩).toArray ∧ Sl encU 1 (Fsh w w') w' a c (wl e)) ∧ Ext False w w' := by
  subst he; exact seff_ok v0 m w hb0 hm n hn s Gs hs p H Fh hH hT
theorem hclosE_ok (p : Option Addr) (H : Option OV) (Fh : Nat → Prop) (s : SV) (Gs : Nat → Prop) (w : World) (hH : HrAt Fh w (.pointer p) H) (hs : Sl encU 1 Gs w s.a s.c (wl s.x)) (hT : Tb w) {e : W64} (he : closH H (memW s.x 64) = e) : Ok Tryd.prog 23 #[.pointer p, .agg (encSV s).toArray] w fun v w' => ∃ x c, v = .agg (encSV ⟨x, c, e⟩).toArray ∧ Sl encU 1 (Fsh w w') w' x c (wl e) ∧ Ext False w w' := by
  subst he; exact hclos_ok p H Fh s Gs w hH hs hT
set_option maxHeartbeats 8000000 in
theorem law_SessionGrows (w : World) (hT : Tb w) (v0 : Value) (l : List SOp) (hs : Rd encOp 4 (Lt w.heap.size) w v0 l) (hol : ∀ o ∈ l, I64 o.r) (x y : UInt8) (lk : W64) : Ok Tryd.prog 5 #[v0, .agg #[.int .u8 (x.toNat : Int), .int .u8 (y.toNat : Int)], u64 lk] w fun v w' => v = .bool true ∧ Ext False w w' := by
  obtain ⟨a, c, rfl, hs⟩ := hs
  have hlen := hs.len
  have hTl := hT.lt
  refine Ok_of_W 111 Tryd.func5 rfl rfl rfl ?_
  have hX : Ext False w w := Bel.refl _ _
  refine W_seq ?_
  refine W_region ?_
  refine Rg_newB rfl (o_box (v := .agg _) rfl) ?_
  intro b4 w1 x2 hge4 hb4
  have hlt4 := hb4.lt
  have z3 := Bel.size x2
  replace hX := Bel.ex hX x2
  replace hT := hT.ext x2
  replace hs := hs.ext x2
  refine Rg_run rfl o_assignc ?_
  refine Rg_nil ?_
  refine W_seq ?_
  refine W_seq ?_
  refine W_region ?_
  change Box _ _ _ [.int .u8 (x.toNat : Int), .int .u8 (y.toNat : Int)] at hb4
  refine Rg_enter rfl (o_call0 Tryd.call8) (Ok.mono (awake_ok _ hT) ?_)
  rintro _ w4 ⟨rfl, x5⟩
  have z6 := Bel.size x5
  replace hX := Bel.ex hX x5
  replace hT := hT.ext x5
  replace hs := hs.ext x5
  replace hb4 := hb4.ext x5
  refine Rg_run rfl (o_not rfl) ?_
  refine Rg_nil ?_
  refine W_cond_false rfl ?_
  refine W_skip ?_
  refine W_seq ?_
  refine W_region ?_
  refine Rg_run rfl (o_moveh (v := .slice _ _ _) rfl) ?_
  refine Rg_enter rfl (o_call1 Tryd.call13 rfl) (Ok.mono (lplay_ok _ _ _ _ _ hs hol) ?_)
  rintro _ w7 ⟨⟨p21, q21, m21, rfl, hm21, hbk21, hrq21⟩, x8⟩
  have z9 := Bel.size x8
  replace hX := Bel.ex hX x8
  replace hT := hT.ext x8
  replace hs := hs.ext x8
  replace hb4 := hb4.ext x8
  refine Rg_run rfl (o_moveh (v := .tuple _) rfl) ?_
  refine Rg_run rfl (o_extract rfl rfl) ?_
  refine Rg_run rfl (o_extract rfl rfl) ?_
  refine Rg_run rfl (o_assignh (v := p21) rfl) ?_
  refine Rg_run rfl (o_assignh (v := q21) rfl) ?_
  refine Rg_nil ?_
  refine W_seq ?_
  refine W_region ?_
  refine Rg_run rfl (o_moveh (v := .int _ _) rfl) ?_
  refine Rg_enter rfl (o_call1 Tryd.call14 rfl) (Ok.mono (make_ok _ _ hT) ?_)
  rintro _ w10 ⟨⟨h26, l26, L26, ρ26, rfl, hh26, hrl26, hlk26⟩, x11⟩
  have z12 := Bel.size x11
  replace hX := Bel.ex hX x11
  replace hT := hT.ext x11
  replace hs := hs.ext x11
  replace hb4 := hb4.ext x11
  replace hbk21 := hbk21.ext x11
  replace hrq21 := (hrq21.ext x11).top
  refine Rg_run rfl (o_moveh (v := .tuple _) rfl) ?_
  refine Rg_run rfl (o_extract rfl rfl) ?_
  refine Rg_run rfl (o_extract rfl rfl) ?_
  refine Rg_run rfl (o_assignh (v := h26) rfl) ?_
  refine Rg_run rfl (o_assignh (v := l26) rfl) ?_
  refine Rg_nil ?_
  refine W_seq ?_
  refine W_seq ?_
  refine W_region ?_
  obtain ⟨pb, b, hpe, hb, hmm⟩ := hbk21
  subst hpe
  subst hmm
  obtain ⟨ph, po, oo, hhe, hh1, hh2, hh3⟩ := hh26
  subst hhe
  have hphl := hh1.lt
  have hlkp : ∀ x ∈ L26, 1 ≤ x.2.val := fun x hx => (hlk26.po x hx).2
  refine Rg_run rfl (o_moveh (v := .pointer (some ⟨pb, 0, none⟩)) rfl) ?_
  refine Rg_run rfl (o_peq Tryd.underlying24 rfl rfl) ?_
  refine Rg_run rfl (o_moveh (v := .bool _) rfl) ?_
  refine Rg_on 2 31 rfl rfl ?_
  refine Rg_run rfl (o_moveh (v := .pointer (some ⟨ph, 0, none⟩)) rfl) ?_
  refine Rg_on 2 31 rfl rfl ?_
  refine Rg_run rfl (o_peq Tryd.underlying38 rfl rfl) ?_
  refine Rg_run rfl (o_pickF (v := .bool _) rfl rfl) ?_
  refine Rg_nil ?_
  refine W_cond_false rfl ?_
  refine W_skip ?_
  refine W_seq ?_
  refine W_region ?_
  refine Rg_run rfl (o_iaA (i := 0) Tryd.underlying50 Tryd.sizeOf5 rfl rfl (by decide)) ?_
  refine Rg_run rfl (o_load1 Tryd.isAgg5 rfl (hb4.at.get 0 rfl)) ?_
  refine Rg_run rfl (o_convB8 Tryd.underlying5 Tryd.underlying34 rfl) ?_
  refine Rg_run rfl (o_bandn (b := BitVec.ofNat 64 1) rfl rfl) ?_
  generalize hfew : (BitVec.ofNat 64 x.toNat &&& ~~~(BitVec.ofNat 64 1)) = few
  refine Rg_enter rfl (o_call1 Tryd.call16 rfl) (Ok.mono (roles_ok few _) ?_)
  rintro _ w13 ⟨a39, c39, rfl, hq39, x14⟩
  have z15 := Bel.size x14
  replace hX := Bel.ex hX x14
  replace hT := hT.ext x14
  replace hs := hs.ext x14
  replace hb4 := hb4.ext x14
  replace hb := hb.ext x14
  replace hh1 := hh1.ext x14
  replace hh2 := hh2.ext x14
  refine Rg_alst rfl rfl Tryd.zeroValue44 rfl Tryd.sizeOf44 (fun _ => rfl) rfl rfl ?_
  intro b11 w16 x17 hge11 hb11
  have hlt11 := hb11.lt
  change Box _ _ _ (encSV _) at hb11
  have z18 := Bel.size x17
  replace hX := Bel.ex hX x17
  replace hT := hT.ext x17
  replace hs := hs.ext x17
  replace hb4 := hb4.ext x17
  replace hb := hb.ext x17
  replace hh1 := hh1.ext x17
  replace hh2 := hh2.ext x17
  replace hq39 := hq39.ext x17
  refine Rg_nil ?_
  refine W_seq ?_
  apply W_drawC (β := False) (fun _ => 0) [peqC _, peqC _, peqC _, peqC _, peqC _, (postW (SvIs ((BitVec.ofNat 64 y.toNat &&& ~~~(BitVec.ofNat 64 1))))), (postK 2 (SvIs ((few ||| (BitVec.ofNat 64 y.toNat &&& ~~~(BitVec.ofNat 64 1)))))), (postBox w16 44 [.slice none 0 0])] [0, 0, 0, 0, 0, 0, 2, 0] 8 mixed (by kernel_rfl) (by kernel_rfl) rfl ⟨peqC_stable _ _, peqC_stable _ _, peqC_stable _ _, peqC_stable _ _, peqC_stable _ _, (postW_stable (SvIs.keepS _)), (postK_stable (SvIs.keepS _)), (postBox_stable), trivial⟩ ?ob8 ?fin8
  case ob8 =>
    refine OblC_cons (fun w19 c21 x20 hc022 hk23 => ?_) ?_
    · skip
      replace x20 := RelG.ext0 x20
      have z24 := Bel.size x20
      have hb11 := hb11.ext x20
      refine bindC_nil ?_
      exact OpC_v rfl (o_loadS Tryd.isAgg44 Tryd.sizeOf44 rfl hb11.at rfl)
    refine OblC_cons (fun w25 c27 x26 hc028 hk29 => ?_) ?_
    · skip
      replace x26 := RelG.ext0 x26
      have z30 := Bel.size x26
      refine bindC_nil ?_
      exact OpC_v rfl (o_iaA (i := 1) Tryd.underlying50 Tryd.sizeOf5 rfl rfl (by decide))
    refine OblC_cons (fun w31 c33 x32 hc034 hk35 => ?_) ?_
    · skip
      replace x32 := RelG.ext0 x32
      have z36 := Bel.size x32
      have hb4 := hb4.ext x32
      refine bindC_eq ?_
      refine bindC_nil ?_
      exact OpC_v rfl (o_load1 Tryd.isAgg5 rfl (hb4.at.get 1 rfl))
    refine OblC_cons (fun w37 c39 x38 hc040 hk41 => ?_) ?_
    · skip
      replace x38 := RelG.ext0 x38
      have z42 := Bel.size x38
      refine bindC_eq ?_
      refine bindC_nil ?_
      exact OpC_v rfl (o_convB8 Tryd.underlying5 Tryd.underlying34 rfl)
    refine OblC_cons (fun w43 c45 x44 hc046 hk47 => ?_) ?_
    · skip
      replace x44 := RelG.ext0 x44
      have z48 := Bel.size x44
      refine bindC_eq ?_
      refine bindC_nil ?_
      exact OpC_v rfl (o_bandn (b := BitVec.ofNat 64 1) rfl rfl)
    refine OblC_cons (fun w49 c51 x50 hc052 hk53 => ?_) ?_
    · skip
      replace x50 := RelG.ext0 x50
      have z54 := Bel.size x50
      refine bindC_eq ?_
      refine bindC_nil ?_
      exact OpC_W rfl (o_call1 Tryd.call16 rfl) ((roles_ok (BitVec.ofNat 64 y.toNat &&& ~~~(BitVec.ofNat 64 1)) _).mono (fun v w2 ⟨a, c, e, h, x⟩ => ⟨⟨a, c, e, h⟩, x⟩))
    refine OblC_cons (fun w55 c57 x56 hc058 hk59 => ?_) ?_
    · skip
      replace x56 := RelG.ext0 x56
      have z60 := Bel.size x56
      have hq39 := hq39.ext x56
      refine bindC_eq ?_
      refine bindC_mem (fun v45 hv45 => ?_)
      obtain ⟨F45, hF45, a45, c45, rfl, hq45⟩ := hv45
      refine bindC_mem (fun v45 hv45 => ?_)
      obtain ⟨F45, hF45, a45, c45, rfl, hq45⟩ := hv45
      refine bindC_nil ?_
      exact OpC_K rfl (o_call2 Tryd.call20 rfl rfl) ((bor_ok _ ⟨a39, c39, few⟩ _ hq39 ⟨a45, c45, (BitVec.ofNat 64 y.toNat &&& ~~~(BitVec.ofNat 64 1))⟩ _ hq45).mono (fun v w2 ⟨a, c, e, h, x⟩ => ⟨⟨a, c, e, h⟩, x⟩))
    refine OblC_cons (fun w61 c63 x62 hc064 hk65 => ?_) ?_
    · skip
      replace x62 := RelG.ext0 x62
      have z66 := Bel.size x62
      refine bindC_nil ?_
      exact OpC_box (Bel.size x62) rfl (o_alloc Tryd.zeroValue44)
    exact OblC_nil
  case fin8 =>
    intro w67 c69 x68 hc070
    replace x68 := RelG.ext0 x68
    have z71 := Bel.size x68
    replace hX := Bel.ex hX x68
    replace hT := hT.ext x68
    replace hs := hs.ext x68
    replace hb4 := hb4.ext x68
    replace hb := hb.ext x68
    replace hh1 := hh1.ext x68
    replace hh2 := hh2.ext x68
    replace hq39 := hq39.ext x68
    replace hb11 := hb11.ext x68
    refine bindC_eq ?_
    refine bindC_eq ?_
    refine bindC_eq ?_
    refine bindC_eq ?_
    refine bindC_eq ?_
    refine bindC_mem (fun v45 hv45 => ?_)
    obtain ⟨F45, hF45, a45, c45, rfl, hq45⟩ := hv45
    refine bindC_mem (fun v46 hv46 => ?_)
    obtain ⟨F46, hF46, a46, c46, rfl, hq46⟩ := hv46
    refine bindC_mem (fun v12 hv12 => ?_)
    refine bindC_nil ?_
    skip
    obtain ⟨b12, rfl, hge12, hb12, hcb12⟩ := hv12
    obtain ⟨n8, hn8⟩ : ∃ n, n = w67.heap.size := ⟨_, rfl⟩
    replace hq46 := hq46.mono (F' := fun g => g < n8 ∧ g ≠ b12) (fun g h1 h2 => ⟨by omega, (fun e => by have h9 := (hF46 g h2).2; rw [e, hcb12] at h9; cases h9)⟩)
    have hlt12 := hb12.lt
    refine Rg_storeW (v := .agg _) rfl Tryd.sizeOf44 rfl rfl hb12 rfl rfl rfl ?_
    intro w72 c73 hb12
    change Box _ _ _ (encSV _) at hb12
    have z74 := Bel.size c73
    replace hX := Bel.out hX c73 (fun g h1 h2 => by first | exact h2 | omega)
    replace hT := hT.keep c73 (fun h => by omega)
    replace hs := hs.keep c73 (fun g h1 h2 h3 => by omega)
    replace hb4 := hb4.keep c73 (fun h => by omega)
    replace hb := hb.keep c73 (fun g h1 h2 h3 => by omega)
    replace hh1 := hh1.keep c73 (fun h => by omega)
    replace hh2 := hh2.keep c73 (fun g h1 h2 h3 => by omega)
    replace hq39 := hq39.keep c73 (fun g h1 h2 h3 => by omega)
    replace hb11 := hb11.keep c73 (fun h => by omega)
    replace hq46 := hq46.keep c73 (fun g h1 h2 h3 => by omega)
    refine Rg_nil ?_
    refine W_seq ?_
    refine W_seq ?_
    refine W_region ?_
    refine Rg_run rfl (o_moveh (v := .pointer (some ⟨pb, 0, none⟩)) rfl) ?_
    refine Rg_enter rfl (o_call1 Tryd.call21 rfl) (Ok.mono (slist_ok _ _ _ hb.is hm21) ?_)
    rintro v48 w75 ⟨⟨l48, hown48, hws48, hl48⟩, x76⟩
    have z77 := Bel.size x76
    replace hX := Bel.ex hX x76
    replace hT := hT.ext x76
    replace hs := hs.ext x76
    replace hb4 := hb4.ext x76
    replace hb := hb.ext x76
    replace hh1 := hh1.ext x76
    replace hh2 := hh2.ext x76
    replace hq39 := hq39.ext x76
    replace hb11 := hb11.ext x76
    replace hq46 := hq46.ext x76
    replace hb12 := hb12.ext x76
    have hll48 := congrArg List.length hl48
    rw [List.length_map] at hll48
    obtain ⟨a48, c48, hv48, hs48⟩ := hown48.sl encSe_ok
    subst hv48
    have hrg : ∀ j : Nat, j < l48.length → -1000 ≤ (l48.getD j sez).n ∧ (l48.getD j sez).n ≤ 1000 := fun j hj => by
      have h1 := hm21.rng _ (gm (z := rz) (show j < b.m.length by omega))
      rw [← hl48, rs_get] at h1
      have h2 : (l48.getD j sez).rs.n = (l48.getD j sez).n := rfl
      rw [h2] at h1; omega
    have heffx : ∀ (j : Nat) (z : W64), j < l48.length → effW (fun y => closH (some oo) (memW y 64)) b.m (l48.getD j sez).n z = closW oo ((l48.getD j sez).x &&& z) := fun j z hj => by
      have h1 : fnd b.m (l48.getD j sez).n = j := fnd_at hm21 (by omega) (by rw [← hl48, rs_get]; rfl)
      rw [effW, h1, if_pos (by omega), Int.toNat_natCast, ← hl48, rs_get]; rfl
    refine Rg_run rfl (o_llen Tryd.underlying52 rfl) ?_
    refine Rg_run rfl o_movec ?_
    refine Rg_nil ?_
    refine W_block ?_
    refine W_for (α := Nat) [(6, 6), (14, 16), (50, 110)] (fun k => [(50, .int .i64 (k : Int))]) (fun k w' => (k ≤ l48.length) ∧ Ext False w75 w') (fun k => l48.length - k) 0 ⟨rfl, trivial⟩ ⟨Nat.zero_le _, Bel.refl _ _⟩ ?_
    rintro k fb80 w79 ⟨hk, hXL78⟩
    have z81 := Bel.size hXL78
    replace hX := Bel.ex hX hXL78
    replace hT := hT.ext hXL78
    replace hs := hs.ext hXL78
    replace hb4 := hb4.ext hXL78
    replace hb := hb.ext hXL78
    replace hh1 := hh1.ext hXL78
    replace hh2 := hh2.ext hXL78
    replace hq39 := hq39.ext hXL78
    replace hb11 := hb11.ext hXL78
    replace hq46 := hq46.ext hXL78
    replace hb12 := hb12.ext hXL78
    replace hws48 := hws48.ext hXL78
    replace hs48 := hs48.ext hXL78
    refine W_seq ?_
    refine W_region ?_
    refine Rg_run rfl (o_lss rfl rfl) ?_
    refine Rg_nil ?_
    refine W_seq ?_
    refine W_cond rfl (fun hc3 => ?_) (fun hc3 => ?_)
    · skip
      replace hc3 := of_decide_eq_true hc3
      refine W_skip ?_
      refine W_seq ?_
      refine W_block ?_
      refine W_seq ?_
      refine W_region ?_
      have hkl : k < l48.length := by omega
      obtain ⟨e1, he1⟩ : ∃ e, effW (fun y => closH (some oo) (memW y 64)) b.m (l48.getD k sez).n few = e := ⟨_, rfl⟩
      obtain ⟨e2, he2⟩ : ∃ e, effW (fun y => closH (some oo) (memW y 64)) b.m (l48.getD k sez).n (few ||| (BitVec.ofNat 64 y.toNat &&& ~~~(BitVec.ofNat 64 1))) = e := ⟨_, rfl⟩
      obtain ⟨ek, hek⟩ : ∃ e, effW (fun y => closH (some oo) (memW y 64)) b.m (l48.getD k sez).n (l48.getD k sez).x = e := ⟨_, rfl⟩
      obtain ⟨cf, hcf⟩ : ∃ e, closH (some oo) (memW few 64) = e := ⟨_, rfl⟩
      obtain ⟨cx, hcx⟩ : ∃ e, closH (some oo) (memW (l48.getD k sez).x 64) = e := ⟨_, rfl⟩
      obtain ⟨ce, hce⟩ : ∃ e, closH (some oo) (memW e1 64) = e := ⟨_, rfl⟩
      have hx1 : subW e1 cf = true := by
        rw [← he1, ← hcf, heffx k few hkl]; exact hh3.mono (fun i h => by rw [BitVec.getLsbD_and, Bool.and_eq_true] at h; exact h.2)
      have hx2 : subW e1 cx = true := by
        rw [← he1, ← hcx, heffx k few hkl]; exact hh3.mono (fun i h => by rw [BitVec.getLsbD_and, Bool.and_eq_true] at h; exact h.1)
      have hx3 : subW e1 e2 = true := by
        rw [← he1, ← he2, heffx k few hkl, heffx k (few ||| (BitVec.ofNat 64 y.toNat &&& ~~~(BitVec.ofNat 64 1))) hkl]; exact hh3.mono (fun i h => by rw [BitVec.getLsbD_and, Bool.and_eq_true] at h ⊢; exact ⟨h.1, by rw [BitVec.getLsbD_or, h.2]; rfl⟩)
      have hx4 : (ce == e1) = true := by
        rw [← hce, ← he1, heffx k few hkl]; exact beq_iff_eq.2 (hh3.idem hlkp _)
      have hx5 : (ek == cx) = true := by
        rw [← hek, ← hcx, heffx k (l48.getD k sez).x hkl, BitVec.and_self]; exact beq_iff_eq.2 rfl
      refine Rg_run rfl (o_iaR Tryd.underlying52 Tryd.sizeOf55 hs48 rfl rfl (by first | omega | (unfold I64; omega) | (simp; done) | (simp; omega) | (simp at *; omega))) ?_
      refine Rg_run rfl (o_ldRS Tryd.isAgg55 Tryd.sizeOf55 hs48 rfl (getE sez (by omega))) ?_
      refine Rg_alst rfl rfl Tryd.zeroValue55 rfl Tryd.sizeOf55 (fun _ => rfl) rfl rfl ?_
      intro b14 w82 x83 hge14 hb14
      have hlt14 := hb14.lt
      change Box _ _ _ (encSe _) at hb14
      have z84 := Bel.size x83
      replace hX := Bel.ex hX x83
      replace hXL78 := Bel.ex hXL78 x83
      replace hT := hT.ext x83
      replace hb := hb.ext x83
      replace hh1 := hh1.ext x83
      replace hh2 := hh2.ext x83
      replace hq39 := hq39.ext x83
      replace hb11 := hb11.ext x83
      replace hq46 := hq46.ext x83
      replace hb12 := hb12.ext x83
      replace hws48 := hws48.ext x83
      refine Rg_nil ?_
      refine W_seq ?_
      apply W_drawC (β := False) (fun _ => 0) [peqC _, peqC _, peqC _, peqC _, peqC _, (postK 2 (SvIs (e1))), peqC _, peqC _, peqC _, peqC _, peqC _, (postK 3 (SvIs (e2))), (postBox w82 44 [.slice none 0 0]), (postBoxK w82 44 [.slice none 0 0] 4)] [0, 0, 0, 0, 0, 2, 0, 0, 0, 0, 0, 3, 0, 4] 14 mixed (by kernel_rfl) (by kernel_rfl) rfl ⟨peqC_stable _ _, peqC_stable _ _, peqC_stable _ _, peqC_stable _ _, peqC_stable _ _, (postK_stable (SvIs.keepS _)), peqC_stable _ _, peqC_stable _ _, peqC_stable _ _, peqC_stable _ _, peqC_stable _ _, (postK_stable (SvIs.keepS _)), (postBox_stable), (postBoxK_stable), trivial⟩ ?ob12 ?fin12
      case ob12 =>
        refine OblC_cons (fun w85 c87 x86 hc088 hk89 => ?_) ?_
        · skip
          replace x86 := RelG.ext0 x86
          have z90 := Bel.size x86
          refine bindC_nil ?_
          exact OpC_v rfl (o_moveh (v := .pointer (some ⟨pb, 0, none⟩)) rfl)
        refine OblC_cons (fun w91 c93 x92 hc094 hk95 => ?_) ?_
        · skip
          replace x92 := RelG.ext0 x92
          have z96 := Bel.size x92
          refine bindC_nil ?_
          exact OpC_v rfl (o_fa Tryd.underlying55 rfl Tryd.sizeOf3 rfl)
        refine OblC_cons (fun w97 c99 x98 hc0100 hk101 => ?_) ?_
        · skip
          replace x98 := RelG.ext0 x98
          have z102 := Bel.size x98
          have hb14 := hb14.ext x98
          refine bindC_eq ?_
          refine bindC_nil ?_
          exact OpC_v rfl (o_load1 Tryd.isAgg3 rfl (hb14.at.get 0 rfl))
        refine OblC_cons (fun w103 c105 x104 hc0106 hk107 => ?_) ?_
        · skip
          replace x104 := RelG.ext0 x104
          have z108 := Bel.size x104
          have hb11 := hb11.ext x104
          refine bindC_nil ?_
          exact OpC_v rfl (o_loadS Tryd.isAgg44 Tryd.sizeOf44 rfl hb11.at rfl)
        refine OblC_cons (fun w109 c111 x110 hc0112 hk113 => ?_) ?_
        · skip
          replace x110 := RelG.ext0 x110
          have z114 := Bel.size x110
          refine bindC_nil ?_
          exact OpC_v rfl (o_moveh (v := .pointer (some ⟨ph, 0, none⟩)) rfl)
        refine OblC_cons (fun w115 c117 x116 hc0118 hk119 => ?_) ?_
        · skip
          replace x116 := RelG.ext0 x116
          have z120 := Bel.size x116
          have hT := hT.ext x116
          have hb := hb.ext x116
          have hh1 := hh1.ext x116
          have hh2 := hh2.ext x116
          have hq39 := hq39.ext x116
          refine bindC_eq ?_
          refine bindC_eq ?_
          refine bindC_eq ?_
          refine bindC_eq ?_
          refine bindC_nil ?_
          exact OpC_K rfl (o_call4 Tryd.call15 rfl rfl rfl rfl) (seffE_ok _ b.m _ hb.is hm21 (l48.getD k sez).n (hrg k (by omega)) ⟨a39, c39, few⟩ _ hq39 (some ⟨ph, 0, none⟩) (some oo) (fun _ => True) ⟨ph, po, rfl, trivial, hh1, hh2.mono (fun _ _ _ => trivial)⟩ hT he1)
        refine OblC_cons (fun w121 c123 x122 hc0124 hk125 => ?_) ?_
        · skip
          replace x122 := RelG.ext0 x122
          have z126 := Bel.size x122
          refine bindC_nil ?_
          exact OpC_v rfl (o_moveh (v := .pointer (some ⟨pb, 0, none⟩)) rfl)
        refine OblC_cons (fun w127 c129 x128 hc0130 hk131 => ?_) ?_
        · skip
          replace x128 := RelG.ext0 x128
          have z132 := Bel.size x128
          refine bindC_nil ?_
          exact OpC_v rfl (o_fa Tryd.underlying55 rfl Tryd.sizeOf3 rfl)
        refine OblC_cons (fun w133 c135 x134 hc0136 hk137 => ?_) ?_
        · skip
          replace x134 := RelG.ext0 x134
          have z138 := Bel.size x134
          have hb14 := hb14.ext x134
          refine bindC_eq ?_
          refine bindC_nil ?_
          exact OpC_v rfl (o_load1 Tryd.isAgg3 rfl (hb14.at.get 0 rfl))
        refine OblC_cons (fun w139 c141 x140 hc0142 hk143 => ?_) ?_
        · skip
          replace x140 := RelG.ext0 x140
          have z144 := Bel.size x140
          have hb12 := hb12.ext x140
          refine bindC_nil ?_
          exact OpC_v rfl (o_loadS Tryd.isAgg44 Tryd.sizeOf44 rfl hb12.at rfl)
        refine OblC_cons (fun w145 c147 x146 hc0148 hk149 => ?_) ?_
        · skip
          replace x146 := RelG.ext0 x146
          have z150 := Bel.size x146
          refine bindC_nil ?_
          exact OpC_v rfl (o_moveh (v := .pointer (some ⟨ph, 0, none⟩)) rfl)
        refine OblC_cons (fun w151 c153 x152 hc0154 hk155 => ?_) ?_
        · skip
          replace x152 := RelG.ext0 x152
          have z156 := Bel.size x152
          have hT := hT.ext x152
          have hb := hb.ext x152
          have hh1 := hh1.ext x152
          have hh2 := hh2.ext x152
          have hq46 := hq46.ext x152
          refine bindC_eq ?_
          refine bindC_eq ?_
          refine bindC_eq ?_
          refine bindC_eq ?_
          refine bindC_mem (fun v59 hv59 => ?_)
          obtain ⟨F59, hF59, a59, c59, rfl, hq59⟩ := hv59
          refine bindC_nil ?_
          exact OpC_K rfl (o_call4 Tryd.call15 rfl rfl rfl rfl) (seffE_ok _ b.m _ hb.is hm21 (l48.getD k sez).n (hrg k (by omega)) ⟨a46, c46, (few ||| (BitVec.ofNat 64 y.toNat &&& ~~~(BitVec.ofNat 64 1)))⟩ _ hq46 (some ⟨ph, 0, none⟩) (some oo) (fun _ => True) ⟨ph, po, rfl, trivial, hh1, hh2.mono (fun _ _ _ => trivial)⟩ hT he2)
        refine OblC_cons (fun w157 c159 x158 hc0160 hk161 => ?_) ?_
        · skip
          replace x158 := RelG.ext0 x158
          have z162 := Bel.size x158
          refine bindC_nil ?_
          exact OpC_box (Bel.size x158) rfl (o_alloc Tryd.zeroValue44)
        refine OblC_cons (fun w163 c165 x164 hc0166 hk167 => ?_) ?_
        · skip
          replace x164 := RelG.ext0 x164
          have z168 := Bel.size x164
          refine bindC_nil ?_
          exact OpC_boxK (kc := 4) (Bel.size x164) rfl (o_alloc Tryd.zeroValue44)
        exact OblC_nil
      case fin12 =>
        intro w169 c171 x170 hc0172
        replace x170 := RelG.ext0 x170
        have z173 := Bel.size x170
        replace hX := Bel.ex hX x170
        replace hXL78 := Bel.ex hXL78 x170
        replace hT := hT.ext x170
        replace hb := hb.ext x170
        replace hh1 := hh1.ext x170
        replace hh2 := hh2.ext x170
        replace hq39 := hq39.ext x170
        replace hb11 := hb11.ext x170
        replace hws48 := hws48.ext x170
        replace hb14 := hb14.ext x170
        refine bindC_eq ?_
        refine bindC_eq ?_
        refine bindC_eq ?_
        refine bindC_eq ?_
        refine bindC_eq ?_
        refine bindC_mem (fun v59 hv59 => ?_)
        obtain ⟨F59, hF59, a59, c59, rfl, hq59⟩ := hv59
        refine bindC_eq ?_
        refine bindC_eq ?_
        refine bindC_eq ?_
        refine bindC_eq ?_
        refine bindC_eq ?_
        refine bindC_mem (fun v65 hv65 => ?_)
        obtain ⟨F65, hF65, a65, c65, rfl, hq65⟩ := hv65
        refine bindC_mem (fun v15 hv15 => ?_)
        refine bindC_mem (fun v16 hv16 => ?_)
        refine bindC_nil ?_
        skip
        skip
        obtain ⟨b15, rfl, hge15, hb15, hcb15⟩ := hv15
        have hlt15 := hb15.lt
        obtain ⟨b16, rfl, hge16, hb16, hcb16⟩ := hv16
        have hne56 : b15 ≠ b16 := fun e => by rw [e, hcb16] at hcb15; cases hcb15
        obtain ⟨n12, hn12⟩ : ∃ n, n = w169.heap.size := ⟨_, rfl⟩
        replace hq59 := hq59.mono (F' := fun g => g < n12 ∧ g ≠ b15 ∧ g ≠ b16) (fun g h1 h2 => ⟨by omega, (fun e => by have h9 := (hF59 g h2).2; rw [e, hcb15] at h9; cases h9), (fun e => by have h9 := (hF59 g h2).2; rw [e, hcb16] at h9; cases h9)⟩)
        replace hq65 := hq65.mono (F' := fun g => g < n12 ∧ g ≠ b15 ∧ g ≠ b16) (fun g h1 h2 => ⟨by omega, (fun e => by have h9 := (hF65 g h2).2; rw [e, hcb15] at h9; cases h9), (fun e => by have h9 := (hF65 g h2).2; rw [e, hcb16] at h9; cases h9)⟩)
        have hlt16 := hb16.lt
        refine Rg_storeW (v := .agg _) rfl Tryd.sizeOf44 rfl rfl hb15 rfl rfl rfl ?_
        intro w174 c175 hb15
        change Box _ _ _ (encSV _) at hb15
        have z176 := Bel.size c175
        replace hX := Bel.out hX c175 (fun g h1 h2 => by first | exact h2 | omega)
        replace hXL78 := Bel.out hXL78 c175 (fun g h1 h2 => by first | exact h2 | omega)
        replace hT := hT.keep c175 (fun h => by omega)
        replace hb := hb.keep c175 (fun g h1 h2 h3 => by omega)
        replace hh1 := hh1.keep c175 (fun h => by omega)
        replace hh2 := hh2.keep c175 (fun g h1 h2 h3 => by omega)
        replace hq39 := hq39.keep c175 (fun g h1 h2 h3 => by omega)
        replace hb11 := hb11.keep c175 (fun h => by omega)
        replace hws48 := hws48.keep c175 (fun g h1 h2 h3 => by omega)
        replace hb14 := hb14.keep c175 (fun h => by omega)
        replace hq59 := hq59.keep c175 (fun g h1 h2 h3 => by omega)
        replace hq65 := hq65.keep c175 (fun g h1 h2 h3 => by omega)
        replace hb16 := hb16.keep c175 (fun h => by omega)
        refine Rg_storeW (v := .agg _) rfl Tryd.sizeOf44 rfl rfl hb16 rfl rfl rfl ?_
        intro w177 c178 hb16
        change Box _ _ _ (encSV _) at hb16
        have z179 := Bel.size c178
        replace hX := Bel.out hX c178 (fun g h1 h2 => by first | exact h2 | omega)
        replace hXL78 := Bel.out hXL78 c178 (fun g h1 h2 => by first | exact h2 | omega)
        replace hT := hT.keep c178 (fun h => by omega)
        replace hb := hb.keep c178 (fun g h1 h2 h3 => by omega)
        replace hh1 := hh1.keep c178 (fun h => by omega)
        replace hh2 := hh2.keep c178 (fun g h1 h2 h3 => by omega)
        replace hq39 := hq39.keep c178 (fun g h1 h2 h3 => by omega)
        replace hb11 := hb11.keep c178 (fun h => by omega)
        replace hws48 := hws48.keep c178 (fun g h1 h2 h3 => by omega)
        replace hb14 := hb14.keep c178 (fun h => by omega)
        replace hq59 := hq59.keep c178 (fun g h1 h2 h3 => by omega)
        replace hq65 := hq65.keep c178 (fun g h1 h2 h3 => by omega)
        replace hb15 := hb15.keep c178 (fun h => by omega)
        refine Rg_nil ?_
        refine W_seq ?_
        apply W_draw (β := False) [peq _, peq _, peq _, (postSV (fun _ => True) (cf)), peq _, peq _, peq _, peq _, peq _, peq _, peq _, (postSV (fun _ => True) (cx)), peq _, peq _, peq _, peq _, peq _, peq _, peq _, peq _, peq _, peq _, peq _, peq _, (postSV (fun _ => True) (ce)), peq _, peq _, peq _, peq _, peq _, peq _, peq _, peq _, peq _, peq _, peq _, (postSV (fun _ => True) (ek)), peq _, peq _, peq _, (postSV (fun _ => True) (cx)), peq _, peq _, peq _] 44 mixed (by kernel_rfl) rfl ⟨peq_stable _, peq_stable _, peq_stable _, (postSV_stable _ _), peq_stable _, peq_stable _, peq_stable _, peq_stable _, peq_stable _, peq_stable _, peq_stable _, (postSV_stable _ _), peq_stable _, peq_stable _, peq_stable _, peq_stable _, peq_stable _, peq_stable _, peq_stable _, peq_stable _, peq_stable _, peq_stable _, peq_stable _, peq_stable _, (postSV_stable _ _), peq_stable _, peq_stable _, peq_stable _, peq_stable _, peq_stable _, peq_stable _, peq_stable _, peq_stable _, peq_stable _, peq_stable _, peq_stable _, (postSV_stable _ _), peq_stable _, peq_stable _, peq_stable _, (postSV_stable _ _), peq_stable _, peq_stable _, peq_stable _, trivial⟩ ?ob13 ?fin13
        case ob13 =>
          refine OblL_cons (fun w180 x181 => ?_) ?_
          · skip
            have z182 := Bel.size x181
            have hb15 := hb15.ext x181
            refine bindP_nil ?_
            exact OpS_v rfl (o_loadS Tryd.isAgg44 Tryd.sizeOf44 rfl hb15.at rfl)
          refine OblL_cons (fun w183 x184 => ?_) ?_
          · skip
            have z185 := Bel.size x184
            refine bindP_nil ?_
            exact OpS_v rfl (o_moveh (v := .pointer (some ⟨ph, 0, none⟩)) rfl)
          refine OblL_cons (fun w186 x187 => ?_) ?_
          · skip
            have z188 := Bel.size x187
            have hb11 := hb11.ext x187
            refine bindP_nil ?_
            exact OpS_v rfl (o_loadS Tryd.isAgg44 Tryd.sizeOf44 rfl hb11.at rfl)
          refine OblL_cons (fun w189 x190 => ?_) ?_
          · skip
            have z191 := Bel.size x190
            have hT := hT.ext x190
            have hh1 := hh1.ext x190
            have hh2 := hh2.ext x190
            have hq39 := hq39.ext x190
            refine bindP_eq ?_
            refine bindP_eq ?_
            refine bindP_nil ?_
            exact OpS_mem rfl (o_call2 Tryd.call23 rfl rfl) ((hclosE_ok (some ⟨ph, 0, none⟩) (some oo) (fun _ => True) ⟨a39, c39, few⟩ _ _ ⟨ph, po, rfl, trivial, hh1, hh2.mono (fun _ _ _ => trivial)⟩ hq39 hT hcf).mono (fun v w2 ⟨a, c, e, h, x⟩ => ⟨x, a, c, e, h.mono (fun _ _ _ => trivial)⟩))
          refine OblL_cons (fun w192 x193 => ?_) ?_
          · skip
            have z194 := Bel.size x193
            have hq59 := hq59.ext x193
            refine bindP_eq ?_
            refine bindP_mem (fun v69 hv69 => ?_)
            obtain ⟨a69, c69, rfl, hq69⟩ := hv69
            refine bindP_mem (fun v69 hv69 => ?_)
            obtain ⟨a69, c69, rfl, hq69⟩ := hv69
            refine bindP_nil ?_
            exact OpS_call rfl (o_call2 Tryd.call22 rfl rfl) (show Ok _ _ _ _ (fun v w' => v = .bool (subW (e1) (cf)) ∧ Ext False _ w') from bwithin_ok _ ⟨a59, c59, e1⟩ _ hq59 ⟨a69, c69, _⟩ _ hq69)
          refine OblL_cons (fun w195 x196 => ?_) ?_
          · skip
            have z197 := Bel.size x196
            refine bindP_eq ?_
            refine bindP_nil ?_
            exact OpS_v rfl (o_not rfl)
          refine OblL_cons (fun w198 x199 => ?_) ?_
          · skip
            have z200 := Bel.size x199
            refine bindP_eq ?_
            refine bindP_eq ?_
            refine bindP_nil ?_
            exact OpS_v rfl (o_moveh (v := .bool _) rfl)
          refine OblL_cons (fun w201 x202 => ?_) ?_
          · skip
            have z203 := Bel.size x202
            have hb15 := hb15.ext x202
            refine bindP_eq ?_
            refine bindP_nil ?_
            refine OpS_on 6 72 rfl (congrArg Value.bool (by rw [hx1]; rfl)) ?_
            exact OpS_v rfl (o_loadS Tryd.isAgg44 Tryd.sizeOf44 rfl hb15.at rfl)
          refine OblL_cons (fun w204 x205 => ?_) ?_
          · skip
            have z206 := Bel.size x205
            refine bindP_eq ?_
            refine bindP_nil ?_
            refine OpS_on 6 72 rfl (congrArg Value.bool (by rw [hx1]; rfl)) ?_
            exact OpS_v rfl (o_moveh (v := .pointer (some ⟨ph, 0, none⟩)) rfl)
          refine OblL_cons (fun w207 x208 => ?_) ?_
          · skip
            have z209 := Bel.size x208
            refine bindP_eq ?_
            refine bindP_nil ?_
            refine OpS_on 6 72 rfl (congrArg Value.bool (by rw [hx1]; rfl)) ?_
            exact OpS_v rfl (o_fa Tryd.underlying55 rfl Tryd.sizeOf44 rfl)
          refine OblL_cons (fun w210 x211 => ?_) ?_
          · skip
            have z212 := Bel.size x211
            have hb14 := hb14.ext x211
            refine bindP_eq ?_
            refine bindP_eq ?_
            refine bindP_nil ?_
            refine OpS_on 6 72 rfl (congrArg Value.bool (by rw [hx1]; rfl)) ?_
            exact OpS_v rfl (o_loadS Tryd.isAgg44 Tryd.sizeOf44 rfl (hb14.at.sub 2 1) rfl)
          refine OblL_cons (fun w213 x214 => ?_) ?_
          · skip
            have z215 := Bel.size x214
            have hT := hT.ext x214
            have hh1 := hh1.ext x214
            have hh2 := hh2.ext x214
            have hws48 := hws48.ext x214
            refine bindP_eq ?_
            refine bindP_eq ?_
            refine bindP_eq ?_
            refine bindP_eq ?_
            refine bindP_nil ?_
            refine OpS_on 6 72 rfl (congrArg Value.bool (by rw [hx1]; rfl)) ?_
            exact OpS_mem rfl (o_call2 Tryd.call23 rfl rfl) ((hclosE_ok (some ⟨ph, 0, none⟩) (some oo) (fun _ => True) ⟨(l48.getD k sez).a, (l48.getD k sez).c, (l48.getD k sez).x⟩ _ _ ⟨ph, po, rfl, trivial, hh1, hh2.mono (fun _ _ _ => trivial)⟩ (hws48 _ (gm (z := sez) (by omega))) hT hcx).mono (fun v w2 ⟨a, c, e, h, x⟩ => ⟨x, a, c, e, h.mono (fun _ _ _ => trivial)⟩))
          refine OblL_cons (fun w216 x217 => ?_) ?_
          · skip
            have z218 := Bel.size x217
            have hq59 := hq59.ext x217
            refine bindP_eq ?_
            refine bindP_mem (fun v77 hv77 => ?_)
            obtain ⟨a77, c77, rfl, hq77⟩ := hv77
            refine bindP_mem (fun v77 hv77 => ?_)
            obtain ⟨a77, c77, rfl, hq77⟩ := hv77
            refine bindP_eq ?_
            refine bindP_nil ?_
            refine OpS_on 6 72 rfl (congrArg Value.bool (by rw [hx1]; rfl)) ?_
            exact OpS_call rfl (o_call2 Tryd.call22 rfl rfl) (show Ok _ _ _ _ (fun v w' => v = .bool (subW (e1) (cx)) ∧ Ext False _ w') from bwithin_ok _ ⟨a59, c59, e1⟩ _ hq59 ⟨a77, c77, _⟩ _ hq77)
          refine OblL_cons (fun w219 x220 => ?_) ?_
          · skip
            have z221 := Bel.size x220
            refine bindP_eq ?_
            refine bindP_eq ?_
            refine bindP_nil ?_
            refine OpS_on 6 72 rfl (congrArg Value.bool (by rw [hx1]; rfl)) ?_
            exact OpS_v rfl (o_not rfl)
          refine OblL_cons (fun w222 x223 => ?_) ?_
          · skip
            have z224 := Bel.size x223
            refine bindP_eq ?_
            refine bindP_eq ?_
            refine bindP_nil ?_
            exact OpS_v rfl (o_pickF (v := .bool _) (congrArg Value.bool (by rw [hx1]; rfl)) rfl)
          refine OblL_cons (fun w225 x226 => ?_) ?_
          · skip
            have z227 := Bel.size x226
            refine bindP_eq ?_
            refine bindP_eq ?_
            refine bindP_nil ?_
            exact OpS_v rfl (o_moveh (v := .bool _) rfl)
          refine OblL_cons (fun w228 x229 => ?_) ?_
          · skip
            have z230 := Bel.size x229
            have hb15 := hb15.ext x229
            refine bindP_eq ?_
            refine bindP_nil ?_
            refine OpS_on 15 81 rfl (congrArg Value.bool (by rw [hx2]; rfl)) ?_
            exact OpS_v rfl (o_loadS Tryd.isAgg44 Tryd.sizeOf44 rfl hb15.at rfl)
          refine OblL_cons (fun w231 x232 => ?_) ?_
          · skip
            have z233 := Bel.size x232
            have hb16 := hb16.ext x232
            refine bindP_eq ?_
            refine bindP_nil ?_
            refine OpS_on 15 81 rfl (congrArg Value.bool (by rw [hx2]; rfl)) ?_
            exact OpS_v rfl (o_loadS Tryd.isAgg44 Tryd.sizeOf44 rfl hb16.at rfl)
          refine OblL_cons (fun w234 x235 => ?_) ?_
          · skip
            have z236 := Bel.size x235
            have hq59 := hq59.ext x235
            have hq65 := hq65.ext x235
            refine bindP_eq ?_
            refine bindP_eq ?_
            refine bindP_eq ?_
            refine bindP_eq ?_
            refine bindP_nil ?_
            refine OpS_on 15 81 rfl (congrArg Value.bool (by rw [hx2]; rfl)) ?_
            exact OpS_call rfl (o_call2 Tryd.call22 rfl rfl) (show Ok _ _ _ _ (fun v w' => v = .bool (subW (e1) (e2)) ∧ Ext False _ w') from bwithin_ok _ ⟨a59, c59, e1⟩ _ hq59 ⟨a65, c65, e2⟩ _ hq65)
          refine OblL_cons (fun w237 x238 => ?_) ?_
          · skip
            have z239 := Bel.size x238
            refine bindP_eq ?_
            refine bindP_eq ?_
            refine bindP_nil ?_
            refine OpS_on 15 81 rfl (congrArg Value.bool (by rw [hx2]; rfl)) ?_
            exact OpS_v rfl (o_not rfl)
          refine OblL_cons (fun w240 x241 => ?_) ?_
          · skip
            have z242 := Bel.size x241
            refine bindP_eq ?_
            refine bindP_eq ?_
            refine bindP_nil ?_
            exact OpS_v rfl (o_pickF (v := .bool _) (congrArg Value.bool (by rw [hx2]; rfl)) rfl)
          refine OblL_cons (fun w243 x244 => ?_) ?_
          · skip
            have z245 := Bel.size x244
            refine bindP_eq ?_
            refine bindP_eq ?_
            refine bindP_nil ?_
            exact OpS_v rfl (o_moveh (v := .bool _) rfl)
          refine OblL_cons (fun w246 x247 => ?_) ?_
          · skip
            have z248 := Bel.size x247
            refine bindP_eq ?_
            refine bindP_nil ?_
            refine OpS_on 21 87 rfl (congrArg Value.bool (by rw [hx3]; rfl)) ?_
            exact OpS_v rfl (o_moveh (v := .pointer (some ⟨ph, 0, none⟩)) rfl)
          refine OblL_cons (fun w249 x250 => ?_) ?_
          · skip
            have z251 := Bel.size x250
            have hb15 := hb15.ext x250
            refine bindP_eq ?_
            refine bindP_nil ?_
            refine OpS_on 21 87 rfl (congrArg Value.bool (by rw [hx3]; rfl)) ?_
            exact OpS_v rfl (o_loadS Tryd.isAgg44 Tryd.sizeOf44 rfl hb15.at rfl)
          refine OblL_cons (fun w252 x253 => ?_) ?_
          · skip
            have z254 := Bel.size x253
            have hT := hT.ext x253
            have hh1 := hh1.ext x253
            have hh2 := hh2.ext x253
            have hq59 := hq59.ext x253
            refine bindP_eq ?_
            refine bindP_eq ?_
            refine bindP_eq ?_
            refine bindP_eq ?_
            refine bindP_nil ?_
            refine OpS_on 21 87 rfl (congrArg Value.bool (by rw [hx3]; rfl)) ?_
            exact OpS_mem rfl (o_call2 Tryd.call23 rfl rfl) ((hclosE_ok (some ⟨ph, 0, none⟩) (some oo) (fun _ => True) ⟨a59, c59, e1⟩ _ _ ⟨ph, po, rfl, trivial, hh1, hh2.mono (fun _ _ _ => trivial)⟩ hq59 hT hce).mono (fun v w2 ⟨a, c, e, h, x⟩ => ⟨x, a, c, e, h.mono (fun _ _ _ => trivial)⟩))
          refine OblL_cons (fun w255 x256 => ?_) ?_
          · skip
            have z257 := Bel.size x256
            have hb15 := hb15.ext x256
            refine bindP_eq ?_
            refine bindP_nil ?_
            refine OpS_on 21 87 rfl (congrArg Value.bool (by rw [hx3]; rfl)) ?_
            exact OpS_v rfl (o_loadS Tryd.isAgg44 Tryd.sizeOf44 rfl hb15.at rfl)
          refine OblL_cons (fun w258 x259 => ?_) ?_
          · skip
            have z260 := Bel.size x259
            have hq59 := hq59.ext x259
            refine bindP_mem (fun v90 hv90 => ?_)
            obtain ⟨a90, c90, rfl, hq90⟩ := hv90
            refine bindP_eq ?_
            refine bindP_mem (fun v90 hv90 => ?_)
            obtain ⟨a90, c90, rfl, hq90⟩ := hv90
            refine bindP_eq ?_
            refine bindP_nil ?_
            refine OpS_on 21 87 rfl (congrArg Value.bool (by rw [hx3]; rfl)) ?_
            exact OpS_call rfl (o_call2 Tryd.call17 rfl rfl) (show Ok _ _ _ _ (fun v w' => v = .bool (ce == e1) ∧ Ext False _ w') from beq_ok _ ⟨a90, c90, _⟩ _ hq90 ⟨a59, c59, e1⟩ _ hq59)
          refine OblL_cons (fun w261 x262 => ?_) ?_
          · skip
            have z263 := Bel.size x262
            refine bindP_eq ?_
            refine bindP_eq ?_
            refine bindP_nil ?_
            refine OpS_on 21 87 rfl (congrArg Value.bool (by rw [hx3]; rfl)) ?_
            exact OpS_v rfl (o_not rfl)
          refine OblL_cons (fun w264 x265 => ?_) ?_
          · skip
            have z266 := Bel.size x265
            refine bindP_eq ?_
            refine bindP_eq ?_
            refine bindP_nil ?_
            exact OpS_v rfl (o_pickF (v := .bool _) (congrArg Value.bool (by rw [hx3]; rfl)) rfl)
          refine OblL_cons (fun w267 x268 => ?_) ?_
          · skip
            have z269 := Bel.size x268
            refine bindP_eq ?_
            refine bindP_eq ?_
            refine bindP_nil ?_
            exact OpS_v rfl (o_moveh (v := .bool _) rfl)
          refine OblL_cons (fun w270 x271 => ?_) ?_
          · skip
            have z272 := Bel.size x271
            refine bindP_eq ?_
            refine bindP_nil ?_
            refine OpS_on 29 95 rfl (congrArg Value.bool (by rw [hx4]; rfl)) ?_
            exact OpS_v rfl (o_moveh (v := .pointer (some ⟨pb, 0, none⟩)) rfl)
          refine OblL_cons (fun w273 x274 => ?_) ?_
          · skip
            have z275 := Bel.size x274
            refine bindP_eq ?_
            refine bindP_nil ?_
            refine OpS_on 29 95 rfl (congrArg Value.bool (by rw [hx4]; rfl)) ?_
            exact OpS_v rfl (o_fa Tryd.underlying55 rfl Tryd.sizeOf3 rfl)
          refine OblL_cons (fun w276 x277 => ?_) ?_
          · skip
            have z278 := Bel.size x277
            have hb14 := hb14.ext x277
            refine bindP_eq ?_
            refine bindP_eq ?_
            refine bindP_nil ?_
            refine OpS_on 29 95 rfl (congrArg Value.bool (by rw [hx4]; rfl)) ?_
            exact OpS_v rfl (o_load1 Tryd.isAgg3 rfl (hb14.at.get 0 rfl))
          refine OblL_cons (fun w279 x280 => ?_) ?_
          · skip
            have z281 := Bel.size x280
            refine bindP_eq ?_
            refine bindP_nil ?_
            refine OpS_on 29 95 rfl (congrArg Value.bool (by rw [hx4]; rfl)) ?_
            exact OpS_v rfl (o_fa Tryd.underlying55 rfl Tryd.sizeOf44 rfl)
          refine OblL_cons (fun w282 x283 => ?_) ?_
          · skip
            have z284 := Bel.size x283
            have hb14 := hb14.ext x283
            refine bindP_eq ?_
            refine bindP_eq ?_
            refine bindP_nil ?_
            refine OpS_on 29 95 rfl (congrArg Value.bool (by rw [hx4]; rfl)) ?_
            exact OpS_v rfl (o_loadS Tryd.isAgg44 Tryd.sizeOf44 rfl (hb14.at.sub 2 1) rfl)
          refine OblL_cons (fun w285 x286 => ?_) ?_
          · skip
            have z287 := Bel.size x286
            refine bindP_eq ?_
            refine bindP_nil ?_
            refine OpS_on 29 95 rfl (congrArg Value.bool (by rw [hx4]; rfl)) ?_
            exact OpS_v rfl (o_moveh (v := .pointer (some ⟨ph, 0, none⟩)) rfl)
          refine OblL_cons (fun w288 x289 => ?_) ?_
          · skip
            have z290 := Bel.size x289
            have hT := hT.ext x289
            have hb := hb.ext x289
            have hh1 := hh1.ext x289
            have hh2 := hh2.ext x289
            have hws48 := hws48.ext x289
            refine bindP_eq ?_
            refine bindP_eq ?_
            refine bindP_eq ?_
            refine bindP_eq ?_
            refine bindP_eq ?_
            refine bindP_eq ?_
            refine bindP_nil ?_
            refine OpS_on 29 95 rfl (congrArg Value.bool (by rw [hx4]; rfl)) ?_
            exact OpS_mem rfl (o_call4 Tryd.call15 rfl rfl rfl rfl) ((seffE_ok _ b.m _ hb.is hm21 (l48.getD k sez).n (hrg k (by omega)) ⟨(l48.getD k sez).a, (l48.getD k sez).c, (l48.getD k sez).x⟩ _ (hws48 _ (gm (z := sez) (by omega))) (some ⟨ph, 0, none⟩) (some oo) (fun _ => True) ⟨ph, po, rfl, trivial, hh1, hh2.mono (fun _ _ _ => trivial)⟩ hT hek).mono (fun v w2 ⟨⟨a, c, e, h⟩, x⟩ => ⟨x, a, c, e, h.mono (fun _ _ _ => trivial)⟩))
          refine OblL_cons (fun w291 x292 => ?_) ?_
          · skip
            have z293 := Bel.size x292
            refine bindP_eq ?_
            refine bindP_nil ?_
            refine OpS_on 29 95 rfl (congrArg Value.bool (by rw [hx4]; rfl)) ?_
            exact OpS_v rfl (o_moveh (v := .pointer (some ⟨ph, 0, none⟩)) rfl)
          refine OblL_cons (fun w294 x295 => ?_) ?_
          · skip
            have z296 := Bel.size x295
            refine bindP_eq ?_
            refine bindP_nil ?_
            refine OpS_on 29 95 rfl (congrArg Value.bool (by rw [hx4]; rfl)) ?_
            exact OpS_v rfl (o_fa Tryd.underlying55 rfl Tryd.sizeOf44 rfl)
          refine OblL_cons (fun w297 x298 => ?_) ?_
          · skip
            have z299 := Bel.size x298
            have hb14 := hb14.ext x298
            refine bindP_eq ?_
            refine bindP_eq ?_
            refine bindP_nil ?_
            refine OpS_on 29 95 rfl (congrArg Value.bool (by rw [hx4]; rfl)) ?_
            exact OpS_v rfl (o_loadS Tryd.isAgg44 Tryd.sizeOf44 rfl (hb14.at.sub 2 1) rfl)
          refine OblL_cons (fun w300 x301 => ?_) ?_
          · skip
            have z302 := Bel.size x301
            have hT := hT.ext x301
            have hh1 := hh1.ext x301
            have hh2 := hh2.ext x301
            have hws48 := hws48.ext x301
            refine bindP_eq ?_
            refine bindP_eq ?_
            refine bindP_mem (fun v102 hv102 => ?_)
            obtain ⟨a102, c102, rfl, hq102⟩ := hv102
            refine bindP_eq ?_
            refine bindP_nil ?_
            refine OpS_on 29 95 rfl (congrArg Value.bool (by rw [hx4]; rfl)) ?_
            exact OpS_mem rfl (o_call2 Tryd.call23 rfl rfl) ((hclosE_ok (some ⟨ph, 0, none⟩) (some oo) (fun _ => True) ⟨(l48.getD k sez).a, (l48.getD k sez).c, (l48.getD k sez).x⟩ _ _ ⟨ph, po, rfl, trivial, hh1, hh2.mono (fun _ _ _ => trivial)⟩ (hws48 _ (gm (z := sez) (by omega))) hT hcx).mono (fun v w2 ⟨a, c, e, h, x⟩ => ⟨x, a, c, e, h.mono (fun _ _ _ => trivial)⟩))
          refine OblL_cons (fun w303 x304 => ?_) ?_
          · skip
            have z305 := Bel.size x304
            refine bindP_mem (fun v102 hv102 => ?_)
            obtain ⟨a102, c102, rfl, hq102⟩ := hv102
            refine bindP_mem (fun v106 hv106 => ?_)
            obtain ⟨a106, c106, rfl, hq106⟩ := hv106
            refine bindP_mem (fun v106 hv106 => ?_)
            obtain ⟨a106, c106, rfl, hq106⟩ := hv106
            refine bindP_eq ?_
            refine bindP_nil ?_
            refine OpS_on 29 95 rfl (congrArg Value.bool (by rw [hx4]; rfl)) ?_
            exact OpS_call rfl (o_call2 Tryd.call17 rfl rfl) (show Ok _ _ _ _ (fun v w' => v = .bool (ek == cx) ∧ Ext False _ w') from beq_ok _ ⟨a102, c102, _⟩ _ hq102 ⟨a106, c106, _⟩ _ hq106)
          refine OblL_cons (fun w306 x307 => ?_) ?_
          · skip
            have z308 := Bel.size x307
            refine bindP_eq ?_
            refine bindP_eq ?_
            refine bindP_nil ?_
            refine OpS_on 29 95 rfl (congrArg Value.bool (by rw [hx4]; rfl)) ?_
            exact OpS_v rfl (o_not rfl)
          refine OblL_cons (fun w309 x310 => ?_) ?_
          · skip
            have z311 := Bel.size x310
            refine bindP_eq ?_
            refine bindP_eq ?_
            refine bindP_nil ?_
            exact OpS_v rfl (o_pickF (v := .bool _) (congrArg Value.bool (by rw [hx4]; rfl)) rfl)
          exact OblL_nil
        case fin13 =>
          intro w312 x313
          have z314 := Bel.size x313
          replace hX := Bel.ex hX x313
          replace hXL78 := Bel.ex hXL78 x313
          refine bindP_eq ?_
          refine bindP_eq ?_
          refine bindP_eq ?_
          refine bindP_mem (fun v69 hv69 => ?_)
          obtain ⟨a69, c69, rfl, hq69⟩ := hv69
          refine bindP_eq ?_
          refine bindP_eq ?_
          refine bindP_eq ?_
          refine bindP_eq ?_
          refine bindP_eq ?_
          refine bindP_eq ?_
          refine bindP_eq ?_
          refine bindP_mem (fun v77 hv77 => ?_)
          obtain ⟨a77, c77, rfl, hq77⟩ := hv77
          refine bindP_eq ?_
          refine bindP_eq ?_
          refine bindP_eq ?_
          refine bindP_eq ?_
          refine bindP_eq ?_
          refine bindP_eq ?_
          refine bindP_eq ?_
          refine bindP_eq ?_
          refine bindP_eq ?_
          refine bindP_eq ?_
          refine bindP_eq ?_
          refine bindP_eq ?_
          refine bindP_mem (fun v90 hv90 => ?_)
          obtain ⟨a90, c90, rfl, hq90⟩ := hv90
          refine bindP_eq ?_
          refine bindP_eq ?_
          refine bindP_eq ?_
          refine bindP_eq ?_
          refine bindP_eq ?_
          refine bindP_eq ?_
          refine bindP_eq ?_
          refine bindP_eq ?_
          refine bindP_eq ?_
          refine bindP_eq ?_
          refine bindP_eq ?_
          refine bindP_mem (fun v102 hv102 => ?_)
          obtain ⟨a102, c102, rfl, hq102⟩ := hv102
          refine bindP_eq ?_
          refine bindP_eq ?_
          refine bindP_eq ?_
          refine bindP_mem (fun v106 hv106 => ?_)
          obtain ⟨a106, c106, rfl, hq106⟩ := hv106
          refine bindP_eq ?_
          refine bindP_eq ?_
          refine bindP_eq ?_
          refine bindP_nil ?_
          refine Rg_nil ?_
          refine W_cond_false (congrArg Value.bool (by rw [hx5]; rfl)) ?_
          refine W_skip ?_
          refine W_region ?_
          refine Rg_run rfl (o_add rfl rfl (by have := hm21.len; unfold I64; omega)) ?_
          refine Rg_run rfl (o_moveh (v := .int _ _) rfl) ?_
          refine Rg_nil ?_
          refine ⟨k + 1, ⟨?_, trivial⟩, ?_, ⟨?_, hXL78⟩, ?_⟩
          · first | rfl | (go_num) | (exact congrArg _ (by omega))
          · repeat (first | exact off_refl _ _ | exact off_mix | refine off_put rfl ?_ | refine off_putN ?_ | refine off_setL rfl ?_ | refine off_mix' rfl ?_)
          · show k + 1 ≤ l48.length; omega
          · omega
    · skip
      replace hc3 := of_decide_eq_false hc3
      refine W_exit ?_
      refine exAt_hit ?_
      refine W_seq ?_
      refine W_region ?_
      refine Rg_run rfl o_assignc ?_
      refine Rg_nil ?_
      refine W_ret ?_
      refine ⟨_, res_tmp rfl rfl, ?_⟩
      refine ⟨congrArg Value.bool ?_, hX⟩
      all_goals (rfl)

end Go.Proofs.YtncmjgmlnnenhaaDoor
