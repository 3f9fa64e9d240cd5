/- Walks, printed by program: each theorem says what a function of the translation returns. -/
import Derived.Test.YtnhbdlllkmnpfaaDoorWref7a
import Derived.Test.YtnhbdlllkmnpfaaDoorPure7b
import Derived.Test.YtnhbdlllkmnpfaaDoorWpath3
import Derived.Test.YtnhbdlllkmnpfaaDoorOwn2
namespace Go.Proofs.YtnhbdlllkmnpfaaDoor
open Go Go.Lx Go.RowKit
set_option maxRecDepth 100000
set_option linter.unusedVariables false
set_option linter.unusedSimpArgs false
set_option linter.unnecessarySimpa false
theorem r7make_ok (w : World) (vp : Value) (p : List UInt8) (hp : Rd encB 1 (Lt w.heap.size) w vp p) : Ok Tryd.prog 22 #[vp] w fun v w' => v = str (makeS p) ∧ Ext False w w' := by
  obtain ⟨ap, cp, rfl, hp⟩ := hp; have mp := hp.len
  refine Ok_of_W 33 Tryd.func22 rfl rfl rfl ?_
  have hX : Ext False w w := Bel.refl _ _
  refine W_seq ?_
  refine W_region ?_
  refine Rg_run rfl o_assignc ?_
  refine Rg_nil ?_
  refine W_seq ?_
  refine W_region ?_
  refine Rg_run rfl o_assignc ?_
  refine Rg_nil ?_
  refine W_seq ?_
  refine W_seq ?_
  refine W_region ?_
  refine Rg_run rfl o_assignc ?_
  refine Rg_nil ?_
  refine W_block ?_
  refine W_for (α := Nat × Value) [(3, 30)] (fun q => [(4, .int .i64 (q.1 : Int)), (3, q.2)]) (fun q w' => (1 ≤ q.1 ∧ q.1 ≤ 1 + (p.getD 0 0).toNat % 5 ∧ (q.1 = 1 ∨ q.1 ≤ p.length)) ∧ Bel False (fun g => w.heap.size ≤ g) w w' ∧ (Own encS 1 9 (fun g => w.heap.size ≤ g) w' q.2 (((p.take q.1).drop 1).map piece7))) (fun q => 5 - q.1) (1, .slice none 0 0) ⟨rfl, rfl, trivial⟩ ⟨⟨Nat.le_refl _, by show 1 ≤ 1 + _; omega, .inl rfl⟩, Bel.refl _ _, (mk_zero p ▸ Own.nil _ _)⟩ ?_
  rintro ⟨k, u⟩ fb3 w2 ⟨⟨h1k, hk5, hkp⟩, hXL1, hown⟩
  dsimp only at *
  have z4 := Bel.size hXL1
  replace hX := Bel.out hX hXL1 (fun g h1 h2 => by first | exact h2 | omega)
  replace hp := hp.keep hXL1 (fun g h1 h2 h3 => by omega)
  have hm5 : (p.getD 0 0).toNat % 5 < 5 := Nat.mod_lt _ (by decide)
  refine W_seq ?_
  refine W_seq ?_
  refine W_region ?_
  refine Rg_run rfl (o_moveh (v := .int _ _) rfl) ?_
  refine Rg_run rfl (o_moveh (v := .slice _ _ _) rfl) ?_
  refine Rg_run rfl (o_llen Tryd.underlying30 rfl) ?_
  refine Rg_run rfl (o_lss rfl rfl) ?_
  refine Rg_run rfl (o_moveh (v := .bool _) rfl) ?_
  refine Rg_may 4 9 rfl rfl rfl (fun hg => (o_moveh (v := .int _ _) rfl)) ?_
  refine Rg_may 4 9 rfl rfl rfl (fun hg => (o_moveh (v := .slice _ _ _) rfl)) ?_
  refine Rg_may 4 9 rfl rfl rfl (fun hg => (o_iaR (i := 0) Tryd.underlying30 Tryd.sizeOf5 hp (gsel (u := undef) hg) rfl (by have := of_decide_eq_true (eq_of_beq hg); omega))) ?_
  refine Rg_may 4 9 rfl rfl rfl (fun hg => (o_ldR Tryd.isAgg5 hp rfl (gsel (u := undef) hg) (getE 0 (by have := of_decide_eq_true (eq_of_beq hg); omega)) rfl)) ?_
  refine Rg_may 4 9 rfl rfl rfl (fun hg => (o_remU (a := (p.getD 0 0).toNat) (b := 5) (gsel (u := undef) hg) rfl (by decide))) ?_
  refine Rg_may 4 9 rfl rfl rfl (fun hg => (o_convS Tryd.underlying5 Tryd.underlying3 (gsel (u := undef) hg) (wrap_in (by unfold I64; omega)))) ?_
  refine Rg_may 4 9 rfl rfl rfl (fun hg => (o_leq (gsel (u := undef) hg) (gsel (u := undef) hg))) ?_
  refine Rg_run rfl (o_and (u := undef) rfl rfl) ?_
  refine Rg_nil ?_
  refine W_cond rfl (fun hc1 => ?_) (fun hc1 => ?_)
  · skip
    obtain ⟨hkl, hk2⟩ := mk_yes hc1
    refine W_skip ?_
    refine W_seq ?_
    refine W_block ?_
    refine W_region ?_
    refine Rg_run rfl (o_moveh (v := u) rfl) ?_
    refine Rg_bs (vs := [str _, str _, str _, str _, str _]) (pieces7) rfl encS_ok el_string rfl rfl ⟨rfl, ⟨rfl, ⟨rfl, ⟨rfl, ⟨rfl, trivial⟩⟩⟩⟩⟩ rfl rfl rfl rfl ?_
    intro a21 w5 x6 hown21
    have z7 := Bel.size x6
    replace hX := Bel.ex hX x6
    replace hXL1 := Bel.ex hXL1 x6
    replace hp := hp.ext x6
    replace hown := hown.ext x6
    replace hown21 := hown21.mono (D' := fun g => w.heap.size ≤ g) (fun g h1 h2 => by omega)
    refine Rg_run rfl (o_moveh (v := .slice _ _ _) rfl) ?_
    refine Rg_run rfl (o_moveh (v := .int _ _) rfl) ?_
    refine Rg_run rfl (o_iaR Tryd.underlying30 Tryd.sizeOf5 hp rfl rfl (by omega)) ?_
    refine Rg_run rfl (o_ldR Tryd.isAgg5 hp rfl rfl (getE 0 (by omega)) rfl) ?_
    refine Rg_run rfl (o_remU (a := (p.getD k 0).toNat) (b := 5) rfl rfl (by decide)) ?_
    refine Rg_run rfl (o_iaR (i := (p.getD k 0).toNat % 5) Tryd.underlying35 Tryd.sizeOf9 (hown21.slA encS_ok) rfl rfl (Nat.mod_lt _ (by decide))) ?_
    refine Rg_run rfl (o_ldR Tryd.isAgg9 (hown21.slA encS_ok) rfl rfl (getE [] (Nat.mod_lt _ (by decide))) rfl) ?_
    refine Rg_bs (vs := [str _]) ([piece7 (p.getD k 0)]) rfl encS_ok el_string rfl rfl ⟨rfl, trivial⟩ rfl rfl rfl rfl ?_
    intro a29 w8 x9 hown29
    have z10 := Bel.size x9
    replace hX := Bel.ex hX x9
    replace hXL1 := Bel.ex hXL1 x9
    replace hp := hp.ext x9
    replace hown := hown.ext x9
    replace hown21 := hown21.ext x9
    replace hown29 := hown29.mono (D' := fun g => w.heap.size ≤ g) (fun g h1 h2 => by omega)
    refine Rg_app rfl encS_ok el_string rfl rfl hown (hown29.slA encS_ok) rfl (by simp; omega) (fun g h => by omega) ?_
    intro v30 w11 x12 hown
    have z13 := Bel.size x12
    replace hX := Bel.out hX x12 (fun g h1 h2 => by first | exact h2 | omega)
    replace hXL1 := Bel.out hXL1 x12 (fun g h1 h2 => by first | exact h2 | omega)
    replace hp := hp.keep x12 (fun g h1 h2 h3 => by omega)
    refine Rg_run rfl (o_assignh (v := v30) rfl) ?_
    refine Rg_nil ?_
    refine W_region ?_
    refine Rg_run rfl (o_moveh (v := .int _ _) rfl) ?_
    refine Rg_run rfl (o_add rfl rfl (by have := hp.len; unfold I64; omega)) ?_
    refine Rg_run rfl (o_assignh (v := .int _ _) rfl) ?_
    refine Rg_nil ?_
    refine ⟨(k + 1, v30), ⟨?_, ?_, trivial⟩, ?_, ⟨?_, hXL1, ?_⟩, ?_⟩
    · first | rfl | (go_num) | (exact congrArg _ (by omega))
    · first | rfl | (go_num) | (exact congrArg _ (by omega))
    · repeat (first | exact off_refl _ _ | exact off_mix | refine off_put rfl ?_ | refine off_putN ?_ | refine off_setL rfl ?_ | refine off_mix' rfl ?_)
    · exact ⟨by show 1 ≤ k + 1; omega, by show k + 1 ≤ 1 + _; omega, .inr (by show k + 1 ≤ p.length; omega)⟩
    · show Own _ _ _ _ _ _ (((p.take (k + 1)).drop 1).map piece7); rw [mk_succ (by omega) (by omega)]; exact hown
    · show 5 - (k + 1) < 5 - k; omega
  · skip
    have hend := mk_no hc1
    refine W_exit ?_
    refine exAt_hit ?_
    refine W_seq ?_
    refine W_region ?_
    refine Rg_run rfl (o_moveh (v := u) rfl) ?_
    refine Rg_enter rfl (o_call1 Tryd.call24 rfl) (Ok.mono (r7of_ok (False) _ _ (((p.take k).drop 1).map piece7) (hown.trd encS_ok) (by simp; omega) (fun q hq => mk_mem q hq) (by have := mk_len (p := p) k (by omega); omega)) ?_)
    rintro _ w14 ⟨rfl, x15⟩
    have z16 := Bel.size x15
    replace hX := Bel.ex hX x15
    replace hp := hp.ext x15
    replace hown := hown.ext x15
    refine Rg_run rfl (o_assignh (v := str _) rfl) ?_
    refine Rg_nil ?_
    refine W_ret ?_
    refine ⟨_, res_tmp rfl rfl, ?_⟩
    refine ⟨congrArg str ?_, hX⟩
    all_goals (rw [mk_end h1k hk5 hend]; rfl)

end Go.Proofs.YtnhbdlllkmnpfaaDoor
