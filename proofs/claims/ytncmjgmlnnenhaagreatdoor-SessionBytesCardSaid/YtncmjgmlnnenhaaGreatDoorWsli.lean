/- Walks, printed by program: each theorem says what a function of the translation returns. -/
import Derived.Test.YtncmjgmlnnenhaaGreatDoorWbits
import Derived.Test.YtncmjgmlnnenhaaGreatDoorOwn3
import Derived.Test.YtncmjgmlnnenhaaGreatDoorSess
import Derived.Test.YtncmjgmlnnenhaaGreatDoorHy
namespace Go.Proofs.YtncmjgmlnnenhaaGreatDoor
open Go Go.Lx Go.RowKit
set_option maxRecDepth 100000
set_option linter.unusedVariables false
set_option linter.unusedSimpArgs false
set_option linter.unnecessarySimpa false
theorem el_ses : ElT Tryz.prog 32 38 3 40 (.agg #[.int .i64 0, .int .i64 0, .slice none 0 0]) := ⟨Tryz.underlying32, ⟨Tryz.t38, by kernel_rfl, rfl, rfl, rfl⟩, rfl, by decide, by decide⟩
theorem sesover {D F : Nat → Prop} {b : Option Addr} {g off m cb c la ca n : Nat} {xs l : List SE} (w : World) (hx : Own encSe 3 38 F w (.slice b n cb) xs) (hne : xs ≠ []) (ho : Own encSe 3 38 D w (.slice (some ⟨g, 0, none⟩) m c) l) (hc : 0 < c) (hd : ∀ q, F q → D q → False) :
    (callFunc 91 #[.slice b n cb, .slice (some ⟨g, off, none⟩) la ca]).run Tryz.prog w = .ok (.value (.bool false)) w := by
  rw [run_callFunc_extern Tryz.func91 (by kernel_rfl) (by kernel_rfl) (by kernel_rfl) (e := Extern.SlicesOverlaps.overlaps #[32, 32] #[4]) (by kernel_rfl), over_apart Tryz.underlying32 Tryz.sizeOf38 hx hne ho (by decide) hc hd]
  rfl
theorem sesins_ok (a : Option Addr) (c : Nat) (D F : Nat → Prop) (l : List SE) (i : Nat) (b : Option Addr) (cb : Nat) (x : SE) (w : World) (ho : Own encSe 3 38 D w (.slice a l.length c) l) (hx : Own encSe 3 38 F w (.slice b 1 cb) [x]) (hi : i ≤ l.length) (hl : l.length ≤ 100000) (hDF : ∀ q, F q → D q → False) : Ok Tryz.prog 42 #[.slice a l.length c, .int .i64 (i : Int), .slice b 1 cb] w fun v w' => Own encSe 3 38 (fun g => D g ∨ Fsh w w' g) w' v (l.take i ++ [x] ++ l.drop i) ∧ Bel False D w w' := by
  replace ho := ho.mono (D' := fun g => D g ∧ g < w.heap.size) (fun g h1 h2 => ⟨h2, h1⟩)
  replace hx := hx.mono (D' := fun g => F g ∧ g < w.heap.size) (fun g h1 h2 => ⟨h2, h1⟩)
  have hlc := ho.capOf.1
  have hcm := (ho.slA encSe_ok).cap
  have hcm2 : c ≤ 140737488355328 * 65536 := by unfold maxLen at hcm; omega
  obtain ⟨n0, hn0⟩ : ∃ n, n = w.heap.size := ⟨_, rfl⟩
  refine Ok_of_W 95 Tryz.func42 rfl rfl rfl ?_
  have hX : Bel False (fun g => D g ∨ w.heap.size ≤ g) w w := Bel.refl _ _
  refine W_seq (W_region ?_)
  refine Rg_run rfl o_assignc ?_
  refine Rg_nil (W_seq (W_region ?_))
  refine Rg_run rfl (o_moveh (v := .slice _ _ _) rfl) ?_
  refine Rg_run rfl (o_moveh (v := .int _ _) rfl) ?_
  refine Rg_run rfl (o_slfrom2 (j := i) Tryz.underlying32 Tryz.sizeOf38 rfl rfl (by omega) (by omega)) ?_
  refine Rg_nil (W_seq (W_region ?_))
  refine Rg_run rfl (o_moveh (v := .slice _ _ _) rfl) ?_
  refine Rg_run rfl (o_llen Tryz.underlying32 rfl) ?_
  refine Rg_run rfl (o_assignh (v := .int _ _) rfl) ?_
  refine Rg_nil (W_seq (W_seq (W_region ?_)))
  refine Rg_run rfl (o_moveh (v := .int _ _) rfl) ?_
  refine Rg_run rfl (o_eql rfl rfl) ?_
  refine Rg_nil ?_
  refine W_cond_false rfl ?_
  refine W_skip (W_seq (W_region ?_))
  refine Rg_run rfl (o_moveh (v := .slice _ _ _) rfl) ?_
  refine Rg_run rfl (o_llen Tryz.underlying32 rfl) ?_
  refine Rg_run rfl (o_assignh (v := .int _ _) rfl) ?_
  refine Rg_nil (W_seq (W_seq (W_region ?_)))
  refine Rg_run rfl (o_moveh (v := .int _ _) rfl) ?_
  refine Rg_run rfl (o_moveh (v := .int _ _) rfl) ?_
  refine Rg_run rfl (o_eql rfl rfl) ?_
  refine Rg_nil ?_
  refine W_cond rfl (fun hc2 => ?_) (fun hc2 => ?_)
  · skip
    have hil : i = l.length := by have := eq_of_beq hc2; omega
    refine W_seq (W_region ?_)
    refine Rg_run rfl (o_moveh (v := .slice _ _ _) rfl) ?_
    refine Rg_run rfl (o_moveh (v := .slice _ _ _) rfl) ?_
    refine Rg_app rfl encSe_ok el_ses rfl rfl (ho.mono (D' := fun g => D g ∨ w.heap.size ≤ g) (fun g _ h => Or.inl h.1)) (hx.slA encSe_ok) rfl (by simp; omega) (fun g h => Or.inr (by omega)) ?_
    intro v25 w1 x2 hown25
    have z3 := Bel.size x2
    replace hX := Bel.out hX x2 (fun g h1 h2 => by first | exact h2 | exact Or.inl h2.1 | exact Or.inl h2 | omega)
    refine Rg_run rfl (o_assignh (v := v25) rfl) ?_
    refine Rg_nil (W_ret ?_)
    refine ⟨_, res_tmp rfl rfl, ?_⟩
    refine ⟨?_, hX.mono (fun g h1 h2 => h2.elim id (fun h => by omega))⟩
    have e : (l.take i ++ [x] ++ l.drop i) = l ++ [x] := by rw [hil]; simp
    rw [e]
    exact hown25.mono (fun g h1 h2 => h2.elim Or.inl (fun h => Or.inr ⟨h, h1⟩))
  have hil : i < l.length := by
    have : ¬ (i : Int) = (l.length : Int) := by simpa using hc2
    omega
  refine W_skip (W_seq (W_seq (W_region ?_)))
  refine Rg_run rfl (o_moveh (v := .int _ _) rfl) ?_
  refine Rg_run rfl (o_moveh (v := .int _ _) rfl) ?_
  refine Rg_run rfl (o_addN (p := l.length) (b := 1) rfl rfl (by omega)) ?_
  refine Rg_run rfl (o_moveh (v := .slice _ _ _) rfl) ?_
  refine Rg_run rfl (o_cap Tryz.underlying32 rfl) ?_
  refine Rg_run rfl (o_gtr rfl rfl) ?_
  refine Rg_nil ?_
  refine W_cond rfl (fun hc3 => ?_) (fun hc3 => ?_)
  · skip
    replace hc3 := of_decide_eq_true hc3
    refine W_seq (W_region ?_)
    refine Rg_run rfl (o_moveh (v := .slice _ _ _) rfl) ?_
    refine Rg_run rfl (o_moveh (v := .int _ _) rfl) ?_
    refine Rg_run rfl (o_slto (j := i) Tryz.underlying32 Tryz.sizeOf38 rfl rfl (by omega)) ?_
    refine Rg_run rfl (o_moveh (v := .int _ _) rfl) ?_
    refine Rg_run rfl (o_moveh (v := .int _ _) rfl) ?_
    refine Rg_run rfl (o_addN (p := l.length) (b := 1) rfl rfl (by omega)) ?_
    refine Rg_run rfl (o_moveh (v := .int _ _) rfl) ?_
    refine Rg_run rfl (o_subN (p := l.length + 1) (b := i) rfl rfl (by omega) (by omega)) ?_
    refine Rg_appz (i := i) (q := l.length + 1 - i) sez rfl encSe_ok el_ses rfl Tryz.underlying3 rfl rfl (ho.cut encSe_ok hi) (by omega) (by omega) (by omega) ?_
    intro g40 c40 w4 x5 hge40 hown40
    have z6 := Bel.size x5
    replace hX := Bel.ex hX x5
    replace ho := ho.ext x5
    replace hx := hx.ext x5
    refine Rg_run rfl (o_assignh (v := .slice _ _ _) rfl) ?_
    refine Rg_nil (W_seq (W_region ?_))
    refine Rg_run rfl (o_moveh (v := .slice _ _ _) rfl) ?_
    refine Rg_run rfl (o_moveh (v := .int _ _) rfl) ?_
    refine Rg_run rfl (o_slfrom2 (j := i) Tryz.underlying32 Tryz.sizeOf38 rfl rfl (by omega) (by have := hown40.capOf.1; omega)) ?_
    refine Rg_run rfl (o_moveh (v := .slice _ _ _) rfl) ?_
    refine Rg_cpy (o := i) (m2 := i + (l.length + 1 - i)) ([x]) rfl encSe_ok el_ses rfl rfl hown40 (hx.slA encSe_ok) (by simp; omega) (by simp; omega) (by have h := hown40.capOf.1; simp; omega) (by simp; omega) ?_
    intro w7 x8 hown40
    have z9 := Bel.size x8
    replace hX := Bel.out hX x8 (fun g h1 h2 => by first | exact h2 | exact Or.inl h2.1 | exact Or.inl h2 | omega)
    replace ho := ho.keepD x8 (fun g h1 h2 h3 => by omega)
    refine Rg_nil (W_seq ?_)
    apply W_drawC (β := False) (fun _ => 0) [peqC _, peqC _, peqC _, peqC _, peqC _, peqC _, peqC _, peqC _] [0, 0, 0, 0, 0, 0, 0, 0] 8 mixed (by kernel_rfl) (by kernel_rfl) rfl ⟨peqC_stable _ _, peqC_stable _ _, peqC_stable _ _, peqC_stable _ _, peqC_stable _ _, peqC_stable _ _, peqC_stable _ _, peqC_stable _ _, trivial⟩ ?ob11 ?fin11
    case ob11 =>
      refine OblC_cons (fun w10 c12 x11 hc013 hk14 => ?_) ?_
      · skip
        replace x11 := RelG.ext0 x11
        have z15 := Bel.size x11
        refine bindC_nil ?_
        exact OpC_v rfl (o_moveh (v := .slice _ _ _) rfl)
      refine OblC_cons (fun w16 c18 x17 hc019 hk20 => ?_) ?_
      · skip
        replace x17 := RelG.ext0 x17
        have z21 := Bel.size x17
        refine bindC_nil ?_
        exact OpC_v rfl (o_moveh (v := .int _ _) rfl)
      refine OblC_cons (fun w22 c24 x23 hc025 hk26 => ?_) ?_
      · skip
        replace x23 := RelG.ext0 x23
        have z27 := Bel.size x23
        refine bindC_nil ?_
        exact OpC_v rfl (o_moveh (v := .int _ _) rfl)
      refine OblC_cons (fun w28 c30 x29 hc031 hk32 => ?_) ?_
      · skip
        replace x29 := RelG.ext0 x29
        have z33 := Bel.size x29
        refine bindC_eq (bindC_eq (bindC_nil ?_))
        exact OpC_v rfl (o_addN (p := i) (b := 1) rfl rfl (by omega))
      refine OblC_cons (fun w34 c36 x35 hc037 hk38 => ?_) ?_
      · skip
        replace x35 := RelG.ext0 x35
        have z39 := Bel.size x35
        have hown40 := hown40.ext x35
        refine bindC_eq (bindC_eq (bindC_nil ?_))
        exact OpC_v rfl (o_slfrom2 (j := i + 1) Tryz.underlying32 Tryz.sizeOf38 rfl rfl (by omega) (by have := hown40.capOf.1; omega))
      refine OblC_cons (fun w40 c42 x41 hc043 hk44 => ?_) ?_
      · skip
        replace x41 := RelG.ext0 x41
        have z45 := Bel.size x41
        refine bindC_nil ?_
        exact OpC_v rfl (o_moveh (v := .slice _ _ _) rfl)
      refine OblC_cons (fun w46 c48 x47 hc049 hk50 => ?_) ?_
      · skip
        replace x47 := RelG.ext0 x47
        have z51 := Bel.size x47
        refine bindC_nil ?_
        exact OpC_v rfl (o_moveh (v := .int _ _) rfl)
      refine OblC_cons (fun w52 c54 x53 hc055 hk56 => ?_) ?_
      · skip
        replace x53 := RelG.ext0 x53
        have z57 := Bel.size x53
        refine bindC_eq (bindC_eq (bindC_nil ?_))
        exact OpC_v rfl (o_slfrom2 (j := i) Tryz.underlying32 Tryz.sizeOf38 rfl rfl (by omega) (by omega))
      exact OblC_nil
    case fin11 =>
      intro w58 c60 x59 hc061
      replace x59 := RelG.ext0 x59
      have z62 := Bel.size x59
      replace hX := Bel.ex hX x59
      replace ho := ho.ext x59
      replace hown40 := hown40.ext x59
      refine bindC_eq (bindC_eq (bindC_eq (bindC_eq (bindC_eq (bindC_eq (bindC_eq (bindC_eq (bindC_nil ?_))))))))
      refine Rg_cpy (o := i + 1) (m2 := i + (l.length + 1 - i)) (l.drop i) rfl encSe_ok el_ses rfl rfl hown40 ((ho.slA encSe_ok).drop hi) (by simp; omega) (by rw [putL_len (by simp; omega)]; simp; omega) (by have h := hown40.capOf.1; simp; omega) (by rw [putL_len (by simp; omega)]; simp; omega) ?_
      intro w63 x64 hown40
      have z65 := Bel.size x64
      replace hX := Bel.out hX x64 (fun g h1 h2 => by first | exact h2 | exact Or.inl h2.1 | exact Or.inl h2 | omega)
      refine Rg_nil (W_seq (W_region ?_))
      refine Rg_run rfl (o_moveh (v := .slice _ _ _) rfl) ?_
      refine Rg_run rfl (o_assignh (v := .slice _ _ _) rfl) ?_
      refine Rg_nil (W_ret ?_)
      refine ⟨_, res_tmp rfl rfl, ?_⟩
      refine ⟨?_, hX.mono (fun g h1 h2 => h2.elim id (fun h => by omega))⟩
      rw [ins_grow hi rfl] at hown40
      exact hown40.mono (fun g h1 h2 => Or.inr ⟨by omega, h1⟩)
  replace hc3 := of_decide_eq_false hc3
  refine W_skip (W_seq (W_region ?_))
  refine Rg_run rfl (o_moveh (v := .slice _ _ _) rfl) ?_
  refine Rg_run rfl (o_moveh (v := .int _ _) rfl) ?_
  refine Rg_run rfl (o_moveh (v := .int _ _) rfl) ?_
  refine Rg_run rfl (o_addN (p := l.length) (b := 1) rfl rfl (by omega)) ?_
  refine Rg_run rfl (o_slto (j := l.length + 1) Tryz.underlying32 Tryz.sizeOf38 rfl rfl (by omega)) ?_
  refine Rg_run rfl (o_assignh (v := .slice _ _ _) rfl) ?_
  refine Rg_nil (W_seq (W_seq (W_region ?_)))
  obtain ⟨ga, rfl⟩ : ∃ g, a = some ⟨g, 0, none⟩ := by
    obtain ⟨g, c2, hv⟩ := ho.sm (by intro e; rw [e] at hil; simp at hil)
    simp only [Value.slice.injEq] at hv
    exact ⟨g, hv.1⟩
  refine Rg_run rfl (o_moveh (v := .slice _ _ _) rfl) ?_
  refine Rg_run rfl (o_moveh (v := .slice _ _ _) rfl) ?_
  refine Rg_run rfl (o_moveh (v := .int _ _) rfl) ?_
  refine Rg_run rfl (o_moveh (v := .int _ _) rfl) ?_
  refine Rg_run rfl (o_addN (p := i) (b := 1) rfl rfl (by omega)) ?_
  refine Rg_run rfl (o_sfromG (j := i + 1) Tryz.underlying32 Tryz.sizeOf38 rfl rfl (by omega) (by omega)) ?_
  refine Rg_run rfl (o_ext2 rfl rfl (sesover _ hx (by simp) ho (by omega) (fun q h1 h2 => hDF q h1.1 h2.1))) ?_
  refine Rg_run rfl (o_not rfl) ?_
  refine Rg_nil ?_
  refine W_cond_true rfl ?_
  refine W_seq ?_
  apply W_drawC (β := False) (fun _ => 0) [peqC _, peqC _, peqC _, peqC _, peqC _, peqC _, peqC _, peqC _] [0, 0, 0, 0, 0, 0, 0, 0] 8 mixed (by kernel_rfl) (by kernel_rfl) rfl ⟨peqC_stable _ _, peqC_stable _ _, peqC_stable _ _, peqC_stable _ _, peqC_stable _ _, peqC_stable _ _, peqC_stable _ _, peqC_stable _ _, trivial⟩ ?ob15 ?fin15
  case ob15 =>
    refine OblC_cons (fun w66 c68 x67 hc069 hk70 => ?_) ?_
    · skip
      replace x67 := RelG.ext0 x67
      have z71 := Bel.size x67
      refine bindC_nil ?_
      exact OpC_v rfl (o_moveh (v := .slice _ _ _) rfl)
    refine OblC_cons (fun w72 c74 x73 hc075 hk76 => ?_) ?_
    · skip
      replace x73 := RelG.ext0 x73
      have z77 := Bel.size x73
      refine bindC_nil ?_
      exact OpC_v rfl (o_moveh (v := .int _ _) rfl)
    refine OblC_cons (fun w78 c80 x79 hc081 hk82 => ?_) ?_
    · skip
      replace x79 := RelG.ext0 x79
      have z83 := Bel.size x79
      refine bindC_nil ?_
      exact OpC_v rfl (o_moveh (v := .int _ _) rfl)
    refine OblC_cons (fun w84 c86 x85 hc087 hk88 => ?_) ?_
    · skip
      replace x85 := RelG.ext0 x85
      have z89 := Bel.size x85
      refine bindC_eq (bindC_eq (bindC_nil ?_))
      exact OpC_v rfl (o_addN (p := i) (b := 1) rfl rfl (by omega))
    refine OblC_cons (fun w90 c92 x91 hc093 hk94 => ?_) ?_
    · skip
      replace x91 := RelG.ext0 x91
      have z95 := Bel.size x91
      refine bindC_eq (bindC_eq (bindC_nil ?_))
      exact OpC_v rfl (o_slfrom2 (j := i + 1) Tryz.underlying32 Tryz.sizeOf38 rfl rfl (by omega) (by omega))
    refine OblC_cons (fun w96 c98 x97 hc099 hk100 => ?_) ?_
    · skip
      replace x97 := RelG.ext0 x97
      have z101 := Bel.size x97
      refine bindC_nil ?_
      exact OpC_v rfl (o_moveh (v := .slice _ _ _) rfl)
    refine OblC_cons (fun w102 c104 x103 hc0105 hk106 => ?_) ?_
    · skip
      replace x103 := RelG.ext0 x103
      have z107 := Bel.size x103
      refine bindC_nil ?_
      exact OpC_v rfl (o_moveh (v := .int _ _) rfl)
    refine OblC_cons (fun w108 c110 x109 hc0111 hk112 => ?_) ?_
    · skip
      replace x109 := RelG.ext0 x109
      have z113 := Bel.size x109
      refine bindC_eq (bindC_eq (bindC_nil ?_))
      exact OpC_v rfl (o_slfrom2 (j := i) Tryz.underlying32 Tryz.sizeOf38 rfl rfl (by omega) (by omega))
    exact OblC_nil
  case fin15 =>
    intro w114 c116 x115 hc0117
    replace x115 := RelG.ext0 x115
    have z118 := Bel.size x115
    replace hX := Bel.ex hX x115
    replace ho := ho.ext x115
    replace hx := hx.ext x115
    refine bindC_eq (bindC_eq (bindC_eq (bindC_eq (bindC_eq (bindC_eq (bindC_eq (bindC_eq (bindC_nil ?_))))))))
    refine Rg_cpy (o := i + 1) (m2 := l.length + 1) (l.drop i) rfl encSe_ok el_ses rfl rfl ho ((ho.slA encSe_ok).drop hi) (by simp; omega) (by omega) (by simp; omega) (by simp; omega) ?_
    intro w119 x120 ho
    have z121 := Bel.size x120
    replace hX := Bel.out hX x120 (fun g h1 h2 => by first | exact h2 | exact Or.inl h2.1 | exact Or.inl h2 | omega)
    replace hx := hx.keepD x120 (fun g h1 h2 h3 => by first | (exact hDF g h2.1 h3.1) | omega)
    refine Rg_nil (W_seq (W_region ?_))
    refine Rg_run rfl (o_moveh (v := .slice _ _ _) rfl) ?_
    refine Rg_run rfl (o_moveh (v := .int _ _) rfl) ?_
    refine Rg_run rfl (o_slfrom2 (j := i) Tryz.underlying32 Tryz.sizeOf38 rfl rfl (by omega) (by omega)) ?_
    refine Rg_run rfl (o_moveh (v := .slice _ _ _) rfl) ?_
    refine Rg_cpy (o := i) (m2 := l.length + 1) ([x]) rfl encSe_ok el_ses rfl rfl ho (hx.slA encSe_ok) (by simp; omega) (by rw [putL_len (by omega)]; simp; omega) (by simp; omega) (by rw [putL_len (by omega)]; simp; omega) ?_
    intro w122 x123 ho
    have z124 := Bel.size x123
    replace hX := Bel.out hX x123 (fun g h1 h2 => by first | exact h2 | exact Or.inl h2.1 | exact Or.inl h2 | omega)
    refine Rg_nil (W_seq (W_region ?_))
    refine Rg_run rfl (o_moveh (v := .slice _ _ _) rfl) ?_
    refine Rg_run rfl (o_assignh (v := .slice _ _ _) rfl) ?_
    refine Rg_nil (W_ret ?_)
    refine ⟨_, res_tmp rfl rfl, ?_⟩
    refine ⟨?_, hX.mono (fun g h1 h2 => h2.elim id (fun h => by omega))⟩
    rw [ins_place hil] at ho
    exact ho.mono (fun g h1 h2 => Or.inl h2.1)

theorem sesinsV_ok (D F : Nat → Prop) (l : List SE) (i : Nat) (v0 : Value) (b : Option Addr) (cb : Nat) (x : SE) (w : World) (ho : Own encSe 3 38 D w v0 l) (hx : Own encSe 3 38 F w (.slice b 1 cb) [x]) (hi : i ≤ l.length) (hl : l.length ≤ 100000) (hDF : ∀ q, F q → D q → False) :
    Ok Tryz.prog 42 #[v0, .int .i64 (i : Int), .slice b 1 cb] w fun v w' => Own encSe 3 38 (fun g => D g ∨ Fsh w w' g) w' v (l.take i ++ [x] ++ l.drop i) ∧ Bel False D w w' := by
  obtain ⟨a, c, rfl, -⟩ := ho.sl encSe_ok
  exact sesins_ok a c D F l i b cb x w ho hx hi hl hDF
theorem sesdel_ok (a : Option Addr) (c : Nat) (D : Nat → Prop) (l : List SE) (i : Nat) (w : World) (ho : Own encSe 3 38 D w (.slice a l.length c) l) (hi : i < l.length) (hl : l.length ≤ 100000) : Ok Tryz.prog 44 #[.slice a l.length c, .int .i64 (i : Int), .int .i64 ((i + 1 : Nat) : Int)] w fun v w' => Own encSe 3 38 D w' v (l.take i ++ l.drop (i + 1)) ∧ Bel True D w w' := by
  have hlc := ho.capOf.1
  have hne : l ≠ [] := by rintro rfl; simp at hi
  have hcm := (ho.slA encSe_ok).cap
  have hcm2 : c ≤ 140737488355328 * 65536 := by unfold maxLen at hcm; omega
  refine Ok_of_W 33 Tryz.func44 rfl rfl rfl ?_
  have hX : Bel True (D) w w := Bel.refl _ _
  refine W_seq (W_region ?_)
  refine Rg_run rfl o_assignc ?_
  refine Rg_nil (W_seq (W_region ?_))
  refine Rg_run rfl (o_moveh (v := .slice _ _ _) rfl) ?_
  refine Rg_run rfl (o_moveh (v := .int _ _) rfl) ?_
  refine Rg_run rfl (o_moveh (v := .int _ _) rfl) ?_
  refine Rg_run rfl (o_moveh (v := .slice _ _ _) rfl) ?_
  refine Rg_run rfl (o_llen Tryz.underlying32 rfl) ?_
  refine Rg_sl3L rfl Tryz.underlying32 Tryz.sizeOf38 rfl rfl rfl rfl (by omega) (by omega) (by omega) (fun v13 => ?_)
  refine Rg_nil (W_seq (W_seq (W_region ?_)))
  refine Rg_run rfl (o_moveh (v := .int _ _) rfl) ?_
  refine Rg_run rfl (o_moveh (v := .int _ _) rfl) ?_
  refine Rg_run rfl (o_eql rfl rfl) ?_
  refine Rg_nil ?_
  refine W_cond_false (congrArg Value.bool (beq_eq_false_iff_ne.2 (by omega))) ?_
  refine W_skip (W_seq (W_region ?_))
  refine Rg_run rfl (o_moveh (v := .slice _ _ _) rfl) ?_
  refine Rg_run rfl (o_llen Tryz.underlying32 rfl) ?_
  refine Rg_run rfl (o_assignh (v := .int _ _) rfl) ?_
  refine Rg_nil (W_seq ?_)
  apply W_drawC (β := True) (fun _ => 0) [peqC _, peqC _, peqC _, peqC _, peqC _, peqC _] [0, 0, 0, 0, 0, 0] 6 mixed (by kernel_rfl) (by kernel_rfl) rfl ⟨peqC_stable _ _, peqC_stable _ _, peqC_stable _ _, peqC_stable _ _, peqC_stable _ _, peqC_stable _ _, trivial⟩ ?ob5 ?fin5
  case ob5 =>
    refine OblC_cons (fun w1 c3 x2 hc04 hk5 => ?_) ?_
    · skip
      replace x2 := RelG.ext0 x2
      have z6 := Bel.size x2
      refine bindC_nil ?_
      exact OpC_v rfl (o_moveh (v := .slice _ _ _) rfl)
    refine OblC_cons (fun w7 c9 x8 hc010 hk11 => ?_) ?_
    · skip
      replace x8 := RelG.ext0 x8
      have z12 := Bel.size x8
      refine bindC_nil ?_
      exact OpC_v rfl (o_moveh (v := .int _ _) rfl)
    refine OblC_cons (fun w13 c15 x14 hc016 hk17 => ?_) ?_
    · skip
      replace x14 := RelG.ext0 x14
      have z18 := Bel.size x14
      refine bindC_eq (bindC_eq (bindC_nil ?_))
      exact OpC_v rfl (o_slto (j := i) Tryz.underlying32 Tryz.sizeOf38 rfl rfl (by omega))
    refine OblC_cons (fun w19 c21 x20 hc022 hk23 => ?_) ?_
    · skip
      replace x20 := RelG.ext0 x20
      have z24 := Bel.size x20
      refine bindC_nil ?_
      exact OpC_v rfl (o_moveh (v := .slice _ _ _) rfl)
    refine OblC_cons (fun w25 c27 x26 hc028 hk29 => ?_) ?_
    · skip
      replace x26 := RelG.ext0 x26
      have z30 := Bel.size x26
      refine bindC_nil ?_
      exact OpC_v rfl (o_moveh (v := .int _ _) rfl)
    refine OblC_cons (fun w31 c33 x32 hc034 hk35 => ?_) ?_
    · skip
      replace x32 := RelG.ext0 x32
      have z36 := Bel.size x32
      refine bindC_eq (bindC_eq (bindC_nil ?_))
      exact OpC_v rfl (o_slfrom2 (j := i + 1) Tryz.underlying32 Tryz.sizeOf38 rfl rfl (by omega) (by omega))
    exact OblC_nil
  case fin5 =>
    intro w37 c39 x38 hc040
    replace x38 := RelG.ext0 x38
    have z41 := Bel.size x38
    replace hX := Bel.ex hX x38
    replace ho := ho.ext x38
    refine bindC_eq (bindC_eq (bindC_eq (bindC_eq (bindC_eq (bindC_eq (bindC_nil ?_))))))
    refine Rg_appfit (i := i) (m2 := l.length) (l.drop (i + 1)) rfl encSe_ok el_ses rfl rfl (by simp) ho ((ho.slA encSe_ok).drop (j := i + 1) hi) hne (by omega) (by simp; omega) (by simp; omega) ?_
    intro w42 x43 ho
    have z44 := Bel.size x43
    replace hX := Bel.out hX x43 (fun g h1 h2 => by first | exact h2 | omega)
    refine Rg_run rfl (o_assignh (v := .slice _ _ _) rfl) ?_
    refine Rg_nil (W_seq (W_region ?_))
    refine Rg_run rfl (o_moveh (v := .slice _ _ _) rfl) ?_
    refine Rg_run rfl (o_moveh (v := .slice _ _ _) rfl) ?_
    refine Rg_run rfl (o_llen Tryz.underlying32 rfl) ?_
    refine Rg_run rfl (o_moveh (v := .int _ _) rfl) ?_
    refine Rg_run rfl (o_slmid (j := i + (l.length - (i + 1))) (h := l.length) Tryz.underlying32 Tryz.sizeOf38 rfl rfl rfl (by omega) (by omega) (by omega)) ?_
    refine Rg_clear sez encSe_ok el_ses rfl rfl ho (by rw [putL_len (by omega)]; simp; omega) (by rw [putL_len (by omega)]; simp; omega) ?_
    intro w45 x46 ho
    have z47 := Bel.size x46
    replace hX := Bel.out hX x46 (fun g h1 h2 => by first | exact h2 | omega)
    refine Rg_nil (W_seq (W_region ?_))
    refine Rg_run rfl (o_moveh (v := .slice _ _ _) rfl) ?_
    refine Rg_run rfl (o_assignh (v := .slice _ _ _) rfl) ?_
    refine Rg_nil (W_ret ?_)
    refine ⟨_, res_tmp rfl rfl, ?_⟩
    refine ⟨?_, hX⟩
    have e1 : i + (l.length - (i + 1)) = l.length - 1 := by omega
    rw [e1, del_place hi] at ho
    have h := ho.cut encSe_ok (j := l.length - 1) (by simp; omega)
    rw [List.take_left' (by simp; omega)] at h
    rw [e1]
    exact h

theorem sesdelV_ok (D : Nat → Prop) (l : List SE) (i : Nat) (v0 : Value) (w : World) (ho : Own encSe 3 38 D w v0 l) (hi : i < l.length) (hl : l.length ≤ 100000) :
    Ok Tryz.prog 44 #[v0, .int .i64 (i : Int), .int .i64 ((i + 1 : Nat) : Int)] w fun v w' => Own encSe 3 38 D w' v (l.take i ++ l.drop (i + 1)) ∧ Bel True D w w' := by
  obtain ⟨a, c, rfl, -⟩ := ho.sl encSe_ok
  exact sesdel_ok a c D l i w ho hi hl
end Go.Proofs.YtncmjgmlnnenhaaGreatDoor
