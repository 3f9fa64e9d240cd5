/- Walks, printed by program: each theorem says what a function of the translation returns. -/
import Derived.Test.YtgnphpimkfcmlaaDoorWpath2
import Derived.Test.YtgnphpimkfcmlaaDoorPure11f
import Derived.Test.YtgnphpimkfcmlaaDoorDrawC
namespace Go.Proofs.YtgnphpimkfcmlaaDoor
open Go Go.Lx Go.RowKit
set_option maxRecDepth 100000
set_option linter.unusedVariables false
set_option linter.unusedSimpArgs false
set_option linter.unnecessarySimpa false
theorem pjoinT_ok (a : Option Addr) (c : Nat) (D : Nat → Prop) (p : Str) (k : Nat) (w : World) (hs : Sl encS 1 D w a c (splitL p)) (hk : k ≤ (splitL p).length) : Ok Tryd.prog 64 #[.slice a k c] w fun v w' => v = str (joinP ((splitL p).take k)) ∧ Ext False w w' := by
  have h8 := splitL_len p
  have h := pjoin_ok a c D ((splitL p).take k) w (hs.take k) (by rw [List.length_take]; omega) (by have := anc_jlen (p := p) k; omega)
  rwa [List.length_take, Nat.min_eq_left hk] at h

theorem panc_ok (w : World) (p : Str) (hp : p.length ≤ 1000000) : Ok Tryd.prog 40 #[str p] w fun v w' => Own encS 1 9 (Fsh w w') w' v (ancS p) ∧ Ext False w w' := by
  have h8 := splitL_len p
  refine Ok_of_W 26 Tryd.func40 rfl rfl rfl ?_
  have hX : Ext False w w := Bel.refl _ _
  refine W_seq ?_
  refine W_region ?_
  refine Rg_run rfl o_assignc ?_
  refine Rg_nil ?_
  refine W_seq ?_
  refine W_region ?_
  refine Rg_run rfl (o_moveh (v := str _) rfl) ?_
  refine Rg_enter rfl (o_call1 Tryd.call63 rfl) (Ok.mono (split_ok (False) _ (by first | assumption | omega | (simp; done) | (simp; omega) | (simp at *; omega)) _) ?_)
  rintro _ w1 ⟨a9, c9, rfl, hs9, x2⟩
  have z3 := Bel.size x2
  replace hX := Bel.ex hX x2
  refine Rg_run rfl (o_moveh (v := .tuple _) rfl) ?_
  refine Rg_run rfl (o_extract rfl rfl) ?_
  refine Rg_run rfl (o_extract rfl rfl) ?_
  refine Rg_run rfl (o_assignh (v := .slice _ _ _) rfl) ?_
  refine Rg_run rfl (o_assignh (v := .bool _) rfl) ?_
  refine Rg_nil ?_
  refine W_seq ?_
  refine W_region ?_
  refine Rg_run rfl o_assignc ?_
  refine Rg_nil ?_
  refine W_seq ?_
  refine W_seq ?_
  refine W_region ?_
  refine Rg_run rfl (o_moveh (v := .slice _ _ _) rfl) ?_
  refine Rg_run rfl (o_llen Tryd.underlying67 rfl) ?_
  refine Rg_run rfl o_movec ?_
  refine Rg_nil ?_
  refine W_block ?_
  refine W_for (α := Nat × Value) [(5, 6), (14, 24)] (fun q => [(14, .int .i64 (q.1 : Int)), (5, q.2)]) (fun q w' => (q.1 ≤ (splitL p).length) ∧ Bel False (fun g => w1.heap.size ≤ g) w1 w' ∧ (Own encS 1 9 (fun g => w1.heap.size ≤ g) w' q.2 ((List.range q.1).map fun i => joinP ((splitL p).take i)))) (fun q => (splitL p).length - q.1) (0, .slice none 0 0) ⟨rfl, rfl, trivial⟩ ⟨Nat.zero_le _, Bel.refl _ _, Own.nil _ _⟩ ?_
  rintro ⟨k, u⟩ fb6 w5 ⟨hk, hXL4, hown⟩
  dsimp only at *
  have z7 := Bel.size hXL4
  replace hX := Bel.out hX hXL4 (fun g h1 h2 => by first | exact h2 | omega)
  replace hs9 := hs9.keep hXL4 (fun g h1 h2 h3 => by omega)
  refine W_seq ?_
  refine W_region ?_
  refine Rg_run rfl (o_lss rfl rfl) ?_
  refine Rg_nil ?_
  refine W_seq ?_
  refine W_cond rfl (fun hc1 => ?_) (fun hc1 => ?_)
  · skip
    replace hc1 := of_decide_eq_true hc1
    refine W_skip ?_
    refine W_seq ?_
    refine W_block ?_
    refine W_seq ?_
    refine W_region ?_
    refine Rg_run rfl (o_moveh (v := .int _ _) rfl) ?_
    refine Rg_run rfl (o_assignh (v := .int _ _) rfl) ?_
    refine Rg_nil ?_
    refine W_region ?_
    refine Rg_run rfl (o_moveh (v := u) rfl) ?_
    refine Rg_run rfl (o_moveh (v := .slice _ _ _) rfl) ?_
    refine Rg_run rfl (o_moveh (v := .int _ _) rfl) ?_
    refine Rg_run rfl (o_slto (j := k) Tryd.underlying67 Tryd.sizeOf9 rfl rfl (by have := hs9.le; omega)) ?_
    refine Rg_enter rfl (o_call1 Tryd.call64 rfl) (Ok.mono (pjoinT_ok _ _ _ p k _ hs9 (by omega)) ?_)
    rintro _ w8 ⟨rfl, x9⟩
    have z10 := Bel.size x9
    replace hX := Bel.ex hX x9
    replace hXL4 := Bel.ex hXL4 x9
    replace hs9 := hs9.ext x9
    replace hown := hown.ext x9
    refine Rg_bs (vs := [str _]) ([joinP ((splitL p).take k)]) rfl encS_ok el_string rfl rfl ⟨rfl, trivial⟩ rfl rfl rfl rfl ?_
    intro a22 w11 x12 hown22
    have z13 := Bel.size x12
    replace hX := Bel.ex hX x12
    replace hXL4 := Bel.ex hXL4 x12
    replace hs9 := hs9.ext x12
    replace hown := hown.ext x12
    replace hown22 := hown22.mono (D' := fun g => w1.heap.size ≤ g) (fun g h1 h2 => by omega)
    refine Rg_app rfl encS_ok el_string rfl rfl hown (hown22.slA encS_ok) rfl (by simp; omega) (fun g h => by omega) ?_
    intro v23 w14 x15 hown
    have z16 := Bel.size x15
    replace hX := Bel.out hX x15 (fun g h1 h2 => by first | exact h2 | omega)
    replace hXL4 := Bel.out hXL4 x15 (fun g h1 h2 => by first | exact h2 | omega)
    replace hs9 := hs9.keep x15 (fun g h1 h2 h3 => by omega)
    refine Rg_run rfl (o_assignh (v := v23) rfl) ?_
    refine Rg_nil ?_
    refine W_region ?_
    refine Rg_run rfl (o_add rfl rfl (by first | omega | (unfold I64; omega) | (simp; done) | (simp; omega) | (simp at *; omega))) ?_
    refine Rg_run rfl (o_moveh (v := .int _ _) rfl) ?_
    refine Rg_nil ?_
    refine ⟨(k + 1, v23), ⟨?_, ?_, trivial⟩, ?_, ⟨?_, hXL4, ?_⟩, ?_⟩
    · first | rfl | (go_num) | (exact congrArg _ (by omega))
    · first | rfl | (go_num) | (exact congrArg _ (by omega))
    · repeat (first | exact off_refl _ _ | exact off_mix | refine off_put rfl ?_ | refine off_putN ?_ | refine off_setL rfl ?_ | refine off_mix' rfl ?_)
    · show k + 1 ≤ (splitL p).length; omega
    · show Own _ _ _ _ _ _ ((List.range (k + 1)).map _); rw [List.range_succ, List.map_append]; exact hown
    · show (splitL p).length - (k + 1) < (splitL p).length - k; omega
  · skip
    replace hc1 := of_decide_eq_false hc1
    refine W_exit ?_
    refine exAt_hit ?_
    refine W_seq ?_
    refine W_region ?_
    refine Rg_run rfl (o_moveh (v := u) rfl) ?_
    refine Rg_run rfl (o_assignh (v := u) rfl) ?_
    refine Rg_nil ?_
    refine W_ret ?_
    refine ⟨_, res_tmp rfl rfl, ?_⟩
    rw [anc_end (by omega)] at hown; exact ⟨hown.mono (fun g h1 h2 => by omega), hX⟩

end Go.Proofs.YtgnphpimkfcmlaaDoor
