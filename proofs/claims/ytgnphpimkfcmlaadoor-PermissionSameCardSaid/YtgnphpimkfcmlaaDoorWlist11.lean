/- Walks, printed by program: each theorem says what a function of the translation returns. -/
import Derived.Test.YtgnphpimkfcmlaaDoorWlaw11a
import Derived.Test.YtgnphpimkfcmlaaDoorDrawC
namespace Go.Proofs.YtgnphpimkfcmlaaDoor
open Go Go.Lx Go.RowKit
set_option maxRecDepth 100000
set_option linter.unusedVariables false
set_option linter.unusedSimpArgs false
set_option linter.unnecessarySimpa false
theorem list_ok (w : World) (vl : Value) (l : List RawV) (hl : Rd encR 3 (Lt w.heap.size) w vl l) (dl : ∀ z ∈ l, Sl encB 1 (Lt w.heap.size) w z.a z.c z.names) : Ok Tryd.prog 25 #[vl] w fun v w' => ∃ a c e f, v = .tuple #[.slice a (rawL l).length c, .slice e (rawL l).length f] ∧ Sl encP 3 (Lt w'.heap.size) w' a c (rawL l) ∧ Sl encP 3 (Lt w'.heap.size) w' e f (rawL l) ∧ Ext False w w' := by
  obtain ⟨al, cl, rfl, hl⟩ := hl; have ml := hl.len
  refine Ok_of_W 37 Tryd.func25 rfl rfl rfl ?_
  have hX : Ext False w w := Bel.refl _ _
  refine W_seq ?_
  refine W_region ?_
  refine Rg_run rfl o_assignc ?_
  refine Rg_run rfl o_assignc ?_
  refine Rg_nil ?_
  refine W_seq ?_
  refine W_region ?_
  refine Rg_run rfl o_assignc ?_
  refine Rg_nil ?_
  refine W_seq ?_
  refine W_region ?_
  refine Rg_run rfl o_assignc ?_
  refine Rg_nil ?_
  refine W_seq ?_
  refine W_seq ?_
  refine W_region ?_
  refine Rg_run rfl o_assignc ?_
  refine Rg_nil ?_
  refine W_block ?_
  refine W_for (α := Nat × Value × Value) [(4, 34)] (fun p => [(6, .int .i64 (p.1 : Int)), (4, p.2.1), (5, p.2.2)]) (fun p w' => (p.1 ≤ l.length ∧ p.1 ≤ 8) ∧ Bel False (Ge w.heap.size) w w' ∧ (∃ col : Nat → Nat, (∀ b, b < w.heap.size → col b = 0) ∧ Own encP 3 27 (fun g => col g = 1) w' p.2.1 ((l.take p.1).map RawV.perm) ∧ Own encP 3 28 (fun g => col g = 2) w' p.2.2 ((l.take p.1).map RawV.perm))) (fun p => l.length - p.1) (0, .slice none 0 0, .slice none 0 0) ⟨rfl, rfl, rfl, trivial⟩ ⟨⟨Nat.zero_le _, Nat.zero_le _⟩, Bel.refl _ _, ⟨fun _ => 0, fun _ _ => rfl, Own.nil _ _, Own.nil _ _⟩⟩ ?_
  rintro ⟨k, ua, ub⟩ fb3 w2 ⟨⟨hk, hk2⟩, hXL1, ⟨col, hcol, ha, hb⟩⟩
  dsimp only at *
  have z4 := Bel.size hXL1
  replace hX := Bel.out hX hXL1 (fun g h1 h2 => by first | exact h2 | omega)
  replace dl := fun z hz => (dl z hz).keep hXL1 (fun g h1 h2 h3 => by omega)
  replace hl := hl.keep hXL1 (fun g h1 h2 h3 => by omega)
  obtain ⟨n0, hn0⟩ : ∃ n, n = w2.heap.size := ⟨_, rfl⟩
  replace ha := ha.mono (D' := fun g => w.heap.size ≤ g ∧ g < n0 ∧ col g = 1) (fun g h1 h2 => ⟨Nat.le_of_not_lt fun q => by (rw [hcol g q] at h2; cases h2), by omega, h2⟩)
  replace hb := hb.mono (D' := fun g => w.heap.size ≤ g ∧ g < n0 ∧ col g = 2) (fun g h1 h2 => ⟨Nat.le_of_not_lt fun q => by (rw [hcol g q] at h2; cases h2), by omega, h2⟩)
  refine W_seq ?_
  refine W_seq ?_
  refine W_region ?_
  refine Rg_run rfl (o_moveh (v := .int _ _) rfl) ?_
  refine Rg_run rfl (o_moveh (v := .slice _ _ _) rfl) ?_
  refine Rg_run rfl (o_llen Tryd.underlying45 rfl) ?_
  refine Rg_run rfl (o_lss rfl rfl) ?_
  refine Rg_run rfl (o_moveh (v := .bool _) rfl) ?_
  refine Rg_may 4 13 rfl rfl rfl (fun hg => (o_moveh (v := .int _ _) rfl)) ?_
  refine Rg_may 4 13 rfl rfl rfl (fun hg => (o_lss (gsel (u := undef) hg) rfl)) ?_
  refine Rg_run rfl (o_and (u := undef) rfl rfl) ?_
  refine Rg_nil ?_
  refine W_cond rfl (fun hc1 => ?_) (fun hc1 => ?_)
  · skip
    have hlt : k < l.length ∧ k < 8 := by simp at hc1; omega
    refine W_skip ?_
    refine W_seq ?_
    refine W_block ?_
    refine W_seq ?_
    refine W_region ?_
    refine Rg_run rfl (o_moveh (v := .slice _ _ _) rfl) ?_
    refine Rg_run rfl (o_moveh (v := .int _ _) rfl) ?_
    refine Rg_run rfl (o_iaR Tryd.underlying45 Tryd.sizeOf24 hl rfl rfl (by first | omega | (unfold I64; omega) | (simp; done) | (simp; omega) | (simp at *; omega))) ?_
    refine Rg_run rfl (o_ldRS Tryd.isAgg24 Tryd.sizeOf24 hl rfl (getE rz (by omega))) ?_
    refine Rg_enter rfl (o_call1 Tryd.call14 rfl) (Ok.mono (make_ok _ _ (dl _ (getD_mem (by omega))).top) ?_)
    rintro _ w5 ⟨rfl, x6⟩
    have z7 := Bel.size x6
    replace hX := Bel.ex hX x6
    replace hXL1 := Bel.ex hXL1 x6
    replace dl := (fun z hz => (dl z hz).ext x6)
    replace hl := hl.ext x6
    replace ha := ha.ext x6
    replace hb := hb.ext x6
    refine Rg_run rfl (o_moveh (v := .tuple _) rfl) ?_
    refine Rg_run rfl (o_extract rfl rfl) ?_
    refine Rg_run rfl (o_extract rfl rfl) ?_
    refine Rg_newB rfl (o_alloc Tryd.zeroValue27) ?_
    intro b7 w8 x9 hge7 hb7
    have hlt7 := hb7.lt
    change Box _ _ _ ([str _, str _, .bool _]) at hb7
    have z10 := Bel.size x9
    replace hX := Bel.ex hX x9
    replace hXL1 := Bel.ex hXL1 x9
    replace dl := (fun z hz => (dl z hz).ext x9)
    replace hl := hl.ext x9
    replace ha := ha.ext x9
    replace hb := hb.ext x9
    refine Rg_newB rfl (o_alloc Tryd.zeroValue28) ?_
    intro b8 w11 x12 hge8 hb8
    have hlt8 := hb8.lt
    change Box _ _ _ ([str _, str _, .bool _]) at hb8
    have z13 := Bel.size x12
    replace hX := Bel.ex hX x12
    replace hXL1 := Bel.ex hXL1 x12
    replace dl := (fun z hz => (dl z hz).ext x12)
    replace hl := hl.ext x12
    replace ha := ha.ext x12
    replace hb := hb.ext x12
    replace hb7 := hb7.ext x12
    refine Rg_storeW (v := .agg _) rfl Tryd.sizeOf27 rfl rfl hb7 rfl rfl rfl ?_
    intro w14 c15 hb7
    change Box _ _ _ (encP _) at hb7
    have z16 := Bel.size c15
    replace hX := Bel.out hX c15 (fun g h1 h2 => by first | exact h2 | omega)
    replace hXL1 := Bel.out hXL1 c15 (fun g h1 h2 => by first | exact h2 | omega)
    replace dl := fun z hz => (dl z hz).keep c15 (fun g h1 h2 h3 => by omega)
    replace hl := hl.keep c15 (fun g h1 h2 h3 => by omega)
    replace ha := ha.keepD c15 (fun g h1 h2 h3 => by omega)
    replace hb := hb.keepD c15 (fun g h1 h2 h3 => by omega)
    replace hb8 := hb8.keep c15 (fun h => by omega)
    refine Rg_storeW (v := .agg _) rfl Tryd.sizeOf28 rfl rfl hb8 rfl rfl rfl ?_
    intro w17 c18 hb8
    change Box _ _ _ (encP _) at hb8
    have z19 := Bel.size c18
    replace hX := Bel.out hX c18 (fun g h1 h2 => by first | exact h2 | omega)
    replace hXL1 := Bel.out hXL1 c18 (fun g h1 h2 => by first | exact h2 | omega)
    replace dl := fun z hz => (dl z hz).keep c18 (fun g h1 h2 h3 => by omega)
    replace hl := hl.keep c18 (fun g h1 h2 h3 => by omega)
    replace ha := ha.keepD c18 (fun g h1 h2 h3 => by omega)
    replace hb := hb.keepD c18 (fun g h1 h2 h3 => by omega)
    replace hb7 := hb7.keep c18 (fun h => by omega)
    refine Rg_nil ?_
    apply W_drawC (β := False) (fun b => if b < n0 then col b else 0) [peqC _, peqC _, (fun v w c => ∃ a, v = .slice a 1 1 ∧ postOwn encP 3 27 0 [(l.getD k rz).perm] v w c), (postOwn encP 3 27 1 ((l.take k).map RawV.perm ++ [(l.getD k rz).perm])), peqC _, peqC _, (fun v w c => ∃ a, v = .slice a 1 1 ∧ postOwn encP 3 28 0 [(l.getD k rz).perm] v w c), (postOwn encP 3 28 2 ((l.take k).map RawV.perm ++ [(l.getD k rz).perm])), (postOwn encP 3 27 1 ((l.take k).map RawV.perm ++ [(l.getD k rz).perm]))] [0, 0, 0, 1, 0, 0, 0, 2, 1] 9 mixed (by kernel_rfl) (by kernel_rfl) rfl ⟨peqC_stable _ _, peqC_stable _ _, (postBs_stable), (postOwn_stable), peqC_stable _ _, peqC_stable _ _, (postBs_stable), (postOwn_stable), (postOwn_stable), trivial⟩ ?ob7 ?fin7
    case ob7 =>
      refine OblC_cons (fun w20 c22 x21 hc023 hk24 => ?_) ?_
      · skip
        replace x21 := Bel.mono x21 (D' := fun g => w.heap.size ≤ g ∧ g < n0) (fun g hg h => (if q : g < n0 then ⟨Nat.le_of_not_lt fun q2 => h (by show (if g < n0 then col g else 0) = 0; rw [hcol g q2]; simp), q⟩ else absurd (by show (if g < n0 then col g else 0) = 0; rw [if_neg q]) h))
        have z25 := Bel.size x21
        have dl := fun z hz => (dl z hz).keep x21 (fun g h1 h2 h3 => by omega)
        have hl := hl.keep x21 (fun g h1 h2 h3 => by omega)
        have hb7 := hb7.keep x21 (fun h => by omega)
        have hb8 := hb8.keep x21 (fun h => by omega)
        refine bindC_nil ?_
        exact OpC_v rfl (o_moveh (v := ua) rfl)
      refine OblC_cons (fun w26 c28 x27 hc029 hk30 => ?_) ?_
      · skip
        replace x27 := Bel.mono x27 (D' := fun g => w.heap.size ≤ g ∧ g < n0) (fun g hg h => (if q : g < n0 then ⟨Nat.le_of_not_lt fun q2 => h (by show (if g < n0 then col g else 0) = 0; rw [hcol g q2]; simp), q⟩ else absurd (by show (if g < n0 then col g else 0) = 0; rw [if_neg q]) h))
        have z31 := Bel.size x27
        have dl := fun z hz => (dl z hz).keep x27 (fun g h1 h2 h3 => by omega)
        have hl := hl.keep x27 (fun g h1 h2 h3 => by omega)
        have hb7 := hb7.keep x27 (fun h => by omega)
        have hb8 := hb8.keep x27 (fun h => by omega)
        refine bindC_nil ?_
        exact OpC_v rfl (o_loadS Tryd.isAgg27 Tryd.sizeOf27 rfl hb7.at rfl)
      refine OblC_cons (fun w32 c34 x33 hc035 hk36 => ?_) ?_
      · skip
        replace x33 := Bel.mono x33 (D' := fun g => w.heap.size ≤ g ∧ g < n0) (fun g hg h => (if q : g < n0 then ⟨Nat.le_of_not_lt fun q2 => h (by show (if g < n0 then col g else 0) = 0; rw [hcol g q2]; simp), q⟩ else absurd (by show (if g < n0 then col g else 0) = 0; rw [if_neg q]) h))
        have z37 := Bel.size x33
        have dl := fun z hz => (dl z hz).keep x33 (fun g h1 h2 h3 => by omega)
        have hl := hl.keep x33 (fun g h1 h2 h3 => by omega)
        have hb7 := hb7.keep x33 (fun h => by omega)
        have hb8 := hb8.keep x33 (fun h => by omega)
        refine bindC_eq ?_
        refine bindC_nil ?_
        exact OpC_bs (vs := [.agg _]) [(l.getD k rz).perm] encP_ok el_perm rfl rfl ⟨rfl, trivial⟩ rfl rfl rfl rfl
      refine OblC_cons (fun w38 c40 x39 hc041 hk42 => ?_) ?_
      · skip
        replace x39 := Bel.mono x39 (D' := fun g => w.heap.size ≤ g ∧ g < n0) (fun g hg h => (if q : g < n0 then ⟨Nat.le_of_not_lt fun q2 => h (by show (if g < n0 then col g else 0) = 0; rw [hcol g q2]; simp), q⟩ else absurd (by show (if g < n0 then col g else 0) = 0; rw [if_neg q]) h))
        have z43 := Bel.size x39
        have dl := fun z hz => (dl z hz).keep x39 (fun g h1 h2 h3 => by omega)
        have hl := hl.keep x39 (fun g h1 h2 h3 => by omega)
        have hb7 := hb7.keep x39 (fun h => by omega)
        have hb8 := hb8.keep x39 (fun h => by omega)
        refine bindC_eq ?_
        refine bindC_mem (fun v29 hv29 => ?_)
        refine bindC_nil ?_
        obtain ⟨a29, rfl, ho29⟩ := hv29
        exact OpC_app (by decide) encP_ok el_perm rfl rfl (ha.blk (fun g hg hl => hk42 1 (by decide) (by kernel_rfl) g hg (by have q := ha.loc g hl; show (if g < n0 then col g else 0) = 1; rw [if_pos q.2.1]; exact q.2.2)) (fun g hg hl => (hc041 g hg).trans (by have q := ha.loc g hl; show (if g < n0 then col g else 0) = 1; rw [if_pos q.2.1]; exact q.2.2))) (Own.slA ho29 encP_ok) rfl (by simp; omega)
      refine OblC_cons (fun w44 c46 x45 hc047 hk48 => ?_) ?_
      · skip
        replace x45 := Bel.mono x45 (D' := fun g => w.heap.size ≤ g ∧ g < n0) (fun g hg h => (if q : g < n0 then ⟨Nat.le_of_not_lt fun q2 => h (by show (if g < n0 then col g else 0) = 0; rw [hcol g q2]; simp), q⟩ else absurd (by show (if g < n0 then col g else 0) = 0; rw [if_neg q]) h))
        have z49 := Bel.size x45
        have dl := fun z hz => (dl z hz).keep x45 (fun g h1 h2 h3 => by omega)
        have hl := hl.keep x45 (fun g h1 h2 h3 => by omega)
        have hb7 := hb7.keep x45 (fun h => by omega)
        have hb8 := hb8.keep x45 (fun h => by omega)
        refine bindC_nil ?_
        exact OpC_v rfl (o_moveh (v := ub) rfl)
      refine OblC_cons (fun w50 c52 x51 hc053 hk54 => ?_) ?_
      · skip
        replace x51 := Bel.mono x51 (D' := fun g => w.heap.size ≤ g ∧ g < n0) (fun g hg h => (if q : g < n0 then ⟨Nat.le_of_not_lt fun q2 => h (by show (if g < n0 then col g else 0) = 0; rw [hcol g q2]; simp), q⟩ else absurd (by show (if g < n0 then col g else 0) = 0; rw [if_neg q]) h))
        have z55 := Bel.size x51
        have dl := fun z hz => (dl z hz).keep x51 (fun g h1 h2 h3 => by omega)
        have hl := hl.keep x51 (fun g h1 h2 h3 => by omega)
        have hb7 := hb7.keep x51 (fun h => by omega)
        have hb8 := hb8.keep x51 (fun h => by omega)
        refine bindC_nil ?_
        exact OpC_v rfl (o_loadS Tryd.isAgg28 Tryd.sizeOf28 rfl hb8.at rfl)
      refine OblC_cons (fun w56 c58 x57 hc059 hk60 => ?_) ?_
      · skip
        replace x57 := Bel.mono x57 (D' := fun g => w.heap.size ≤ g ∧ g < n0) (fun g hg h => (if q : g < n0 then ⟨Nat.le_of_not_lt fun q2 => h (by show (if g < n0 then col g else 0) = 0; rw [hcol g q2]; simp), q⟩ else absurd (by show (if g < n0 then col g else 0) = 0; rw [if_neg q]) h))
        have z61 := Bel.size x57
        have dl := fun z hz => (dl z hz).keep x57 (fun g h1 h2 h3 => by omega)
        have hl := hl.keep x57 (fun g h1 h2 h3 => by omega)
        have hb7 := hb7.keep x57 (fun h => by omega)
        have hb8 := hb8.keep x57 (fun h => by omega)
        refine bindC_eq ?_
        refine bindC_nil ?_
        exact OpC_bs (vs := [.agg _]) [(l.getD k rz).perm] encP_ok el_rperm rfl rfl ⟨rfl, trivial⟩ rfl rfl rfl rfl
      refine OblC_cons (fun w62 c64 x63 hc065 hk66 => ?_) ?_
      · skip
        replace x63 := Bel.mono x63 (D' := fun g => w.heap.size ≤ g ∧ g < n0) (fun g hg h => (if q : g < n0 then ⟨Nat.le_of_not_lt fun q2 => h (by show (if g < n0 then col g else 0) = 0; rw [hcol g q2]; simp), q⟩ else absurd (by show (if g < n0 then col g else 0) = 0; rw [if_neg q]) h))
        have z67 := Bel.size x63
        have dl := fun z hz => (dl z hz).keep x63 (fun g h1 h2 h3 => by omega)
        have hl := hl.keep x63 (fun g h1 h2 h3 => by omega)
        have hb7 := hb7.keep x63 (fun h => by omega)
        have hb8 := hb8.keep x63 (fun h => by omega)
        refine bindC_eq ?_
        refine bindC_mem (fun v33 hv33 => ?_)
        refine bindC_mem (fun v30 hv30 => ?_)
        refine bindC_nil ?_
        obtain ⟨a33, rfl, ho33⟩ := hv33
        exact OpC_app (by decide) encP_ok el_rperm rfl rfl (hb.blk (fun g hg hl => hk66 2 (by decide) (by kernel_rfl) g hg (by have q := hb.loc g hl; show (if g < n0 then col g else 0) = 2; rw [if_pos q.2.1]; exact q.2.2)) (fun g hg hl => (hc065 g hg).trans (by have q := hb.loc g hl; show (if g < n0 then col g else 0) = 2; rw [if_pos q.2.1]; exact q.2.2))) (Own.slA ho33 encP_ok) rfl (by simp; omega)
      refine OblC_cons (fun w68 c70 x69 hc071 hk72 => ?_) ?_
      · skip
        replace x69 := Bel.mono x69 (D' := fun g => w.heap.size ≤ g ∧ g < n0) (fun g hg h => (if q : g < n0 then ⟨Nat.le_of_not_lt fun q2 => h (by show (if g < n0 then col g else 0) = 0; rw [hcol g q2]; simp), q⟩ else absurd (by show (if g < n0 then col g else 0) = 0; rw [if_neg q]) h))
        have z73 := Bel.size x69
        have dl := fun z hz => (dl z hz).keep x69 (fun g h1 h2 h3 => by omega)
        have hl := hl.keep x69 (fun g h1 h2 h3 => by omega)
        have hb7 := hb7.keep x69 (fun h => by omega)
        have hb8 := hb8.keep x69 (fun h => by omega)
        refine bindC_mem (fun v30 hv30 => ?_)
        refine bindC_mem (fun v34 hv34 => ?_)
        refine bindC_eq ?_
        refine bindC_eq ?_
        refine bindC_mem (fun v29 hv29 => ?_)
        refine bindC_mem (fun v30 hv30 => ?_)
        refine bindC_nil ?_
        exact OpC_vp rfl (o_assignh (v := v30) rfl) hv30
      exact OblC_nil
    case fin7 =>
      intro w74 c76 x75 hc077
      have hcn : ∀ b, b < w.heap.size → c76 b = 0 := fun b hb => (hc077 b (by omega)).trans (by show (if b < n0 then col b else 0) = 0; rw [hcol b hb]; simp)
      replace x75 := Bel.mono x75 (D' := fun g => w.heap.size ≤ g ∧ g < n0) (fun g hg h => (if q : g < n0 then ⟨Nat.le_of_not_lt fun q2 => h (by show (if g < n0 then col g else 0) = 0; rw [hcol g q2]; simp), q⟩ else absurd (by show (if g < n0 then col g else 0) = 0; rw [if_neg q]) h))
      have z78 := Bel.size x75
      replace hX := Bel.out hX x75 (fun g h1 h2 => by first | exact h2 | omega)
      replace hXL1 := Bel.out hXL1 x75 (fun g h1 h2 => by first | exact h2 | omega)
      replace dl := fun z hz => (dl z hz).keep x75 (fun g h1 h2 h3 => by omega)
      replace hl := hl.keep x75 (fun g h1 h2 h3 => by omega)
      replace hb7 := hb7.keep x75 (fun h => by omega)
      replace hb8 := hb8.keep x75 (fun h => by omega)
      refine bindC_eq ?_
      refine bindC_eq ?_
      refine bindC_mem (fun v29 hv29 => ?_)
      refine bindC_mem (fun v30 _ => ?_)
      refine bindC_eq ?_
      refine bindC_eq ?_
      refine bindC_mem (fun v33 hv33 => ?_)
      refine bindC_mem (fun v34 hv34 => ?_)
      refine bindC_mem (fun v4 hv4 => ?_)
      refine bindC_nil ?_
      change Own _ _ _ _ _ _ _ at hv34
      change Own _ _ _ _ _ _ _ at hv4
      refine Rg_run rfl (o_assignh (v := v34) rfl) ?_
      refine Rg_nil ?_
      refine W_region ?_
      refine Rg_run rfl (o_moveh (v := .int _ _) rfl) ?_
      refine Rg_run rfl (o_add rfl rfl (by unfold I64; omega)) ?_
      refine Rg_run rfl (o_assignh (v := .int _ _) rfl) ?_
      refine Rg_nil ?_
      refine ⟨(k + 1, v4, v34), ⟨?_, ?_, ?_, trivial⟩, ?_, ⟨?_, hXL1, ?_⟩, ?_⟩
      · first | rfl | (go_num) | (exact congrArg _ (by omega))
      · first | rfl | (go_num) | (exact congrArg _ (by omega))
      · first | rfl | (go_num) | (exact congrArg _ (by omega))
      · repeat (first | exact off_refl _ _ | exact off_mix | refine off_put rfl ?_ | refine off_putN ?_ | refine off_setL rfl ?_ | refine off_mix' rfl ?_)
      · exact ⟨by omega, by omega⟩
      · refine ⟨_, hcn, ?_, ?_⟩
        · rw [rawL_succ (by omega)]; exact hv4
        · rw [rawL_succ (by omega)]; exact hv34
      · show l.length - (k + 1) < l.length - k; omega
  · skip
    have hge : ¬ (k < l.length ∧ k < 8) := by simp at hc1; omega
    refine W_exit ?_
    refine exAt_hit ?_
    refine W_seq ?_
    refine W_region ?_
    refine Rg_run rfl (o_moveh (v := ua) rfl) ?_
    refine Rg_run rfl (o_moveh (v := ub) rfl) ?_
    refine Rg_run rfl (o_assignh (v := ua) rfl) ?_
    refine Rg_run rfl (o_assignh (v := ub) rfl) ?_
    refine Rg_nil ?_
    refine W_ret ?_
    refine ⟨_, res_tmp2 rfl rfl rfl, ?_⟩
    rw [rawL_end hk hk2 hge] at ha hb
    obtain ⟨a1, c1, e1, h1⟩ := ha.sl encP_ok
    obtain ⟨a2, c2, e2, h2⟩ := hb.sl encP_ok
    subst e1 e2
    exact ⟨_, _, _, _, rfl, h1.top, h2.top, hX⟩

end Go.Proofs.YtgnphpimkfcmlaaDoor
