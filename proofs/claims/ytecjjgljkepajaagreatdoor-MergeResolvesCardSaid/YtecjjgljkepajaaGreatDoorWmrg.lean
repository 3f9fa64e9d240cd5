/- Walks: what functions return. -/
import Derived.Test.YtecjjgljkepajaaGreatDoorWset5
import Derived.Test.YtecjjgljkepajaaGreatDoorWmcmp
import Derived.Test.YtecjjgljkepajaaGreatDoorMg
set_option linter.unusedVariables false
set_option linter.unusedSimpArgs false
set_option linter.unnecessarySimpa false
namespace Go.Proofs.YtecjjgljkepajaaGreatDoor
open Go Go.Lx Go.RowKit
set_option maxRecDepth 100000
theorem mk_laid : laidOutB Tryz.prog = true := by kernel_rfl
theorem mk_wide : (match Tryz.prog.underlying 57 with | some (.array _ _) | some (.struct _) => true | _ => false) = true := by rw [Tryz.underlying57]
theorem mk_rds (k : OKey) (hk : Kr k) : ∃ l, keyOf Tryz.prog 57 (eK k) = some l := by
 obtain ⟨k1, k2, k3, ⟨act, path, deep⟩⟩ := k
 have h1 := hk.k; have h2 := hk.a; have h3 := hk.b; have h4 := hk.ok
 dsimp only at h1 h2 h3
 obtain ⟨h5, h6⟩ := h4
 dsimp only at h5 h6
 obtain ⟨n, hn⟩ : ∃ n, Tryz.prog.types.size + 1 = n + 4 := ⟨Tryz.prog.types.size - 3, by kernel_rfl⟩
 have hkt : Tryz.prog.keyType 57 = true := by kernel_rfl
 have hfm : (eK ⟨k1, k2, k3, ⟨act, path, deep⟩⟩).formed Tryz.prog 57 = true := by
  simp only [eK, Value.formed, Tryz.underlying57]
  kernel_rfl
 have c1 : Tryz.prog.cellsOf 57 = 6 := by kernel_rfl
 have c2 : Tryz.prog.cellsOf 53 = 1 := by kernel_rfl
 have c3 : Tryz.prog.cellsOf 3 = 1 := by kernel_rfl
 have c4 : Tryz.prog.cellsOf 55 = 3 := by kernel_rfl
 have c5 : Tryz.prog.cellsOf 9 = 1 := by kernel_rfl
 have c6 : Tryz.prog.cellsOf 4 = 1 := by kernel_rfl
 have w1 : (Lit.int .u8 k1).wf = true := by simp [Lit.wf, IntKind.min, IntKind.max, IntKind.signed, IntKind.bits]; omega
 have w2 : (Lit.int .i64 k2).wf = true := by simp [Lit.wf, IntKind.min, IntKind.max, IntKind.signed, IntKind.bits]; omega
 have w3 : (Lit.int .i64 k3).wf = true := by simp [Lit.wf, IntKind.min, IntKind.max, IntKind.signed, IntKind.bits]; omega
 have z1 : (⟨act.toArray⟩ : ByteArray).size ≤ maxLen := by show act.toArray.size ≤ _; simp [maxLen]; omega
 have z2 : (⟨path.toArray⟩ : ByteArray).size ≤ maxLen := by show path.toArray.size ≤ _; simp [maxLen]; omega
 have hl : ∃ ls, Tryz.prog.keyLits (n + 4) 57 (encCk ⟨k1, k2, k3, ⟨act, path, deep⟩⟩) = some ls := by
  simp [Program.keyLits, Tryz.underlying57, Tryz.underlying53, Tryz.underlying3, Tryz.underlying55, Tryz.underlying9, Tryz.underlying4, c1, c2, c3, c4, c5, c6, encCk, w1, w2, w3, str, z1, z2]
  rw [if_pos (by intro i hi; match i, hi with | 0, _ => simp | 1, _ => simp | 2, _ => simp)]
  exact ⟨_, rfl⟩
 obtain ⟨ls, hl⟩ := hl
 unfold keyOf
 rw [Tryz.underlying57]
 dsimp only
 rw [hkt, hfm, hn]
 exact ⟨.string (keyBytes ls), by simp [eK, Value.cells, hl]⟩
theorem mk_law : KLawC Tryz.prog 57 := ⟨Go.Maps.Keyed.of_law (deep_law_laid mk_laid (m := 3) (by omega) (of_decide_eq_true (by kernel_rfl)) (by kernel_rfl) mk_wide), mk_rds, eK_inj⟩
set_option maxHeartbeats 2000000 in
theorem bykey_ok (a : Option Addr) (c : Nat) (G : Nat → Prop) (X : List COp) (w : World) (hs : Sl encCo 8 G w a c X) (hv : ∀ x ∈ X, Vo x) (hn : X.length ≤ 100000) : Ok Tryz.prog 30 #[.agg #[.slice a X.length c]] w fun v w' => (∃ b, v = .map (some b) ∧ KM 59 (Fsh w w') w' b X) ∧ Ext False w w' := by
 have hlen := hs.len
 replace hs := hs.mono (F' := fun g => G g ∧ g < w.heap.size) (fun g h1 h2 => ⟨h2, h1⟩)
 refine Ok_of_W 26 Tryz.func30 rfl rfl rfl ?_
 have hX : Ext False w w := Bel.refl _ _
 refine W_seq (W_region ?_)
 refine Rg_newB rfl (o_box (v := .agg _) rfl) ?_
 intro b1 w1 x2 hge1 hb1
 have hlt1 := hb1.lt
 change Box _ _ _ (wsS _ _ _) at hb1
 have z3 := x2.size
 replace hX := hX.ex x2
 replace hs := hs.ext x2
 refine Rr o_assignc ?_
 refine Rg_nil (W_seq (W_region ?_))
 refine Rg_mmk eK eM rfl ?_
 intro m6 w4 x5 hge6 hlt6 hm6
 have z6 := x5.size
 replace hX := hX.ex x5
 replace hs := hs.ext x5
 replace hb1 := hb1.ext x5
 refine Rr (o_assignh (v := .map _) rfl) ?_
 refine Rg_nil (W_seq (W_seq (W_region ?_)))
 refine Rr (o_loadS Tryz.isAgg27 Tryz.sizeOf27 rfl hb1.at rfl) ?_
 refine Rg_enter rfl (o_call1 Tryz.call20 rfl) (Ok.mono (cops_ok _ _ _ X _ hs hn) ?_)
 rintro v8 w7 ⟨hown8, x8⟩
 have z9 := x8.size
 replace hX := hX.ex x8
 replace hm6 := hm6.ext x8
 obtain ⟨a8, c8, hv8, hs8⟩ := hown8.sl encCo_ok
 subst hv8
 obtain ⟨n1, hn1⟩ : ∃ n, n = w7.heap.size := ⟨_, rfl⟩
 have hkm : KM 59 (fun g => g = m6 ∨ n1 ≤ g) w7 m6 [] := KM.nil hm6 (.inl rfl)
 refine Rr (o_llen Tryz.underlying25 rfl) ?_
 refine Rr o_movec ?_
 refine Rg_nil (W_block ?_)
 refine W_for (α := Nat) [(5, 5), (10, 24)] (fun k => [(10, .int .i64 (k : Int))]) (fun k w' => (k ≤ X.length) ∧ Bel False (fun g => g = m6 ∨ n1 ≤ g) w7 w' ∧ (KM 59 (fun g => g = m6 ∨ n1 ≤ g) w' m6 (X.take k))) (fun k => X.length - k) 0 ⟨rfl, trivial⟩ ⟨Nat.zero_le _, Bel.refl _ _, hkm⟩ ?_
 rintro k fb12 w11 ⟨hk, hXL10, hkm⟩
 have z13 := Bel.size hXL10
 replace hX := Bel.out hX hXL10 (fun g h1 h2 => by first | exact h2 | omega)
 replace hs8 := hs8.keep hXL10 (fun g h1 h2 h3 => by omega)
 refine W_seq (W_region ?_)
 refine Rr (o_lss rfl rfl) ?_
 refine Rg_nil (W_seq ?_)
 refine W_cond rfl (fun hc1 => ?_) (fun hc1 => ?_)
 ·replace hc1 := of_decide_eq_true hc1
  refine W_skip (W_seq (W_block (W_seq (W_region ?_))))
  obtain ⟨n2, hn2⟩ : ∃ n, n = w11.heap.size := ⟨_, rfl⟩
  have hok := hv _ (gm (z := coz) (show k < X.length by omega))
  have hwl : (withK (X.take k) (X.getD k coz).key).length ≤ 100000 := Nat.le_trans (List.length_filter_le _ _) (by rw [List.length_take]; omega)
  obtain ⟨v20, m20, hlk20, hown20, hF20, hkx⟩ := hkm.look mk_law Tryz.underlying86 Tryz.zeroValue25 n2 hn2 hok.kr
  have hlt20 : ∀ g, v20.ownBlock = some g → n1 ≤ g ∧ g < n2 := fun g hg => ⟨by have := hF20 g hg; omega, by have := hown20.lt g hg; omega⟩
  refine Rr (o_iaR Tryz.underlying25 Tryz.sizeOf59 hs8 rfl rfl (by first | omega | (unfold I64; omega) | (simp; done) | (simp; omega) | (simp at *; omega))) ?_
  refine Rr (o_ldRS Tryz.isAgg59 Tryz.sizeOf59 hs8 rfl (getE coz (by omega))) ?_
  refine Rg_alst rfl rfl Tryz.zeroValue59 rfl Tryz.sizeOf59 (fun _ => rfl) rfl rfl ?_
  intro b5 w14 x15 hge5 hb5
  have hlt5 := hb5.lt
  change Box _ _ _ (encCo _) at hb5
  have z16 := x15.size
  replace hX := hX.ex x15
  replace hXL10 := Bel.ex hXL10 x15
  replace hlk20 := hlk20.ext x15
  replace hown20 := hown20.ext x15
  replace hkx := hkx.ext x15
  refine Rg_nil ?_
  apply W_drawC (β := False) (fun b => if v20.ownBlock = some b then 1 else 0) [peqC _, peqC _, peqC _, peqC _, peqC _, peqC _, peqC _, peqC _, (fun v w c => ∃ a, v = .slice a 1 1 ∧ postOwn encCo 8 59 0 [(X.getD k coz)] v w c), (postOwn encCo 8 59 1 ((withK (X.take k) (X.getD k coz).key) ++ [(X.getD k coz)]))] [0, 0, 0, 0, 0, 0, 0, 0, 0, 1] 10 mixed (by kernel_rfl) (by kernel_rfl) rfl ⟨peqC_stable _ _, peqC_stable _ _, peqC_stable _ _, peqC_stable _ _, peqC_stable _ _, peqC_stable _ _, peqC_stable _ _, peqC_stable _ _, (postBs_stable), (postOwn_stable), trivial⟩ ?ob5 ?fin5
  case ob5 =>
   refine OblC_cons (fun w17 c19 x18 hc020 hk21 => ?_) ?_
   ·replace x18 := Bel.mono x18 (D' := fun g => (v20.ownBlock = some g ∧ n1 ≤ g ∧ g < n2)) (fun g hg h => (by have hv : v20.ownBlock = some g := Classical.byContradiction fun hn => h (if_neg hn); exact ⟨hv, hlt20 g hv⟩))
    have z22 := x18.size
    refine bindC_nil ?_
    exact OpC_v rfl (o_moveh (v := .map _) rfl)
   refine OblC_cons (fun w23 c25 x24 hc026 hk27 => ?_) ?_
   ·replace x24 := Bel.mono x24 (D' := fun g => (v20.ownBlock = some g ∧ n1 ≤ g ∧ g < n2)) (fun g hg h => (by have hv : v20.ownBlock = some g := Classical.byContradiction fun hn => h (if_neg hn); exact ⟨hv, hlt20 g hv⟩))
    have z28 := x24.size
    have hb5 := hb5.keep x24 (fun h => by omega)
    refine bindC_nil ?_
    exact OpC_v rfl (o_loadS Tryz.isAgg59 Tryz.sizeOf59 rfl hb5.at rfl)
   refine OblC_cons (fun w29 c31 x30 hc032 hk33 => ?_) ?_
   ·replace x30 := Bel.mono x30 (D' := fun g => (v20.ownBlock = some g ∧ n1 ≤ g ∧ g < n2)) (fun g hg h => (by have hv : v20.ownBlock = some g := Classical.byContradiction fun hn => h (if_neg hn); exact ⟨hv, hlt20 g hv⟩))
    have z34 := x30.size
    refine bindC_eq (bindC_nil ?_)
    exact OpC_call rfl (o_call1 Tryz.call19 rfl) (ckey_ok (False) _ _)
   refine OblC_cons (fun w35 c37 x36 hc038 hk39 => ?_) ?_
   ·replace x36 := Bel.mono x36 (D' := fun g => (v20.ownBlock = some g ∧ n1 ≤ g ∧ g < n2)) (fun g hg h => (by have hv : v20.ownBlock = some g := Classical.byContradiction fun hn => h (if_neg hn); exact ⟨hv, hlt20 g hv⟩))
    have z40 := x36.size
    refine bindC_nil ?_
    exact OpC_v rfl (o_moveh (v := .map _) rfl)
   refine OblC_cons (fun w41 c43 x42 hc044 hk45 => ?_) ?_
   ·replace x42 := Bel.mono x42 (D' := fun g => (v20.ownBlock = some g ∧ n1 ≤ g ∧ g < n2)) (fun g hg h => (by have hv : v20.ownBlock = some g := Classical.byContradiction fun hn => h (if_neg hn); exact ⟨hv, hlt20 g hv⟩))
    have z46 := x42.size
    have hb5 := hb5.keep x42 (fun h => by omega)
    refine bindC_nil ?_
    exact OpC_v rfl (o_loadS Tryz.isAgg59 Tryz.sizeOf59 rfl hb5.at rfl)
   refine OblC_cons (fun w47 c49 x48 hc050 hk51 => ?_) ?_
   ·replace x48 := Bel.mono x48 (D' := fun g => (v20.ownBlock = some g ∧ n1 ≤ g ∧ g < n2)) (fun g hg h => (by have hv : v20.ownBlock = some g := Classical.byContradiction fun hn => h (if_neg hn); exact ⟨hv, hlt20 g hv⟩))
    have z52 := x48.size
    refine bindC_eq (bindC_eq (bindC_nil ?_))
    exact OpC_call rfl (o_call1 Tryz.call19 rfl) (ckey_ok (False) _ _)
   refine OblC_cons (fun w53 c55 x54 hc056 hk57 => ?_) ?_
   ·replace x54 := Bel.mono x54 (D' := fun g => (v20.ownBlock = some g ∧ n1 ≤ g ∧ g < n2)) (fun g hg h => (by have hv : v20.ownBlock = some g := Classical.byContradiction fun hn => h (if_neg hn); exact ⟨hv, hlt20 g hv⟩))
    have z58 := x54.size
    have hlk20 := hlk20.keep x54 (fun g h1 h2 h3 => by omega)
    refine bindC_eq (bindC_eq (bindC_nil ?_))
    exact OpC_v rfl (o_klook hlk20 rfl rfl)
   refine OblC_cons (fun w59 c61 x60 hc062 hk63 => ?_) ?_
   ·replace x60 := Bel.mono x60 (D' := fun g => (v20.ownBlock = some g ∧ n1 ≤ g ∧ g < n2)) (fun g hg h => (by have hv : v20.ownBlock = some g := Classical.byContradiction fun hn => h (if_neg hn); exact ⟨hv, hlt20 g hv⟩))
    have z64 := x60.size
    have hb5 := hb5.keep x60 (fun h => by omega)
    refine bindC_nil ?_
    exact OpC_v rfl (o_loadS Tryz.isAgg59 Tryz.sizeOf59 rfl hb5.at rfl)
   refine OblC_cons (fun w65 c67 x66 hc068 hk69 => ?_) ?_
   ·replace x66 := Bel.mono x66 (D' := fun g => (v20.ownBlock = some g ∧ n1 ≤ g ∧ g < n2)) (fun g hg h => (by have hv : v20.ownBlock = some g := Classical.byContradiction fun hn => h (if_neg hn); exact ⟨hv, hlt20 g hv⟩))
    have z70 := x66.size
    refine bindC_eq (bindC_nil ?_)
    exact OpC_bs (vs := [.agg _]) [(X.getD k coz)] encCo_ok el_co rfl rfl ⟨rfl, trivial⟩ rfl rfl rfl rfl
   refine OblC_cons (fun w71 c73 x72 hc074 hk75 => ?_) ?_
   ·replace x72 := Bel.mono x72 (D' := fun g => (v20.ownBlock = some g ∧ n1 ≤ g ∧ g < n2)) (fun g hg h => (by have hv : v20.ownBlock = some g := Classical.byContradiction fun hn => h (if_neg hn); exact ⟨hv, hlt20 g hv⟩))
    have z76 := x72.size
    refine bindC_eq ?_
    refine bindC_mem (fun v22 hv22 => ?_)
    obtain ⟨a22, rfl, ho22⟩ := hv22
    refine bindC_eq (bindC_nil ?_)
    exact OpC_app (by decide) encCo_ok el_co rfl rfl (hown20.blk (fun g hg hv => hk75 1 (by decide) (by kernel_rfl) g hg (if_pos hv)) (fun g hg hv => (hc074 g hg).trans (if_pos hv))) (Own.slA ho22 encCo_ok) rfl (by rw [List.length_singleton]; omega)
   exact OblC_nil
  case fin5 =>
   intro w77 c79 x78 hc080
   replace x78 := Bel.mono x78 (D' := fun g => (v20.ownBlock = some g ∧ n1 ≤ g ∧ g < n2)) (fun g hg h => (by have hv : v20.ownBlock = some g := Classical.byContradiction fun hn => h (if_neg hn); exact ⟨hv, hlt20 g hv⟩))
   have z81 := x78.size
   replace hX := Bel.out hX x78 (fun g h1 h2 => by first | exact h2 | omega)
   replace hXL10 := Bel.out hXL10 x78 (fun g h1 h2 => by first | exact h2 | omega)
   replace hkx := hkx.keep x78 (fun g hg h => by first | exact .inl h.1 | (right; omega))
   refine bindC_eq (bindC_eq (bindC_eq (bindC_eq (bindC_eq (bindC_eq (bindC_eq (bindC_eq ?_)))))))
   refine bindC_mem (fun v22 hv22 => ?_)
   obtain ⟨a22, rfl, ho22⟩ := hv22
   refine bindC_mem (fun v23 hv23 => ?_)
   refine bindC_nil ?_
   change Own _ _ _ _ _ _ _ at hv23
   replace hv23 := Own.mono hv23 (D' := fun g => v20.ownBlock = some g ∨ n2 ≤ g) (fun g hg h => (Nat.lt_or_ge g n2).elim (fun q => .inl (Classical.byContradiction fun hn => by have h2 : (if v20.ownBlock = some g then 1 else 0) = 1 := (hc080 g (by omega)).symm.trans h; rw [if_neg hn] at h2; cases h2)) .inr)
   refine Rg_kput rfl mk_law Tryz.underlying86 rfl rfl rfl hkx hok.kr rfl hv23 (fun g hg h => h.elim (fun h => (hF20 g h).1) (fun h => .inr (by omega))) ?_
   intro w82 x83 hkm
   have z84 := x83.size
   replace hX := Bel.out hX x83 (fun g h1 h2 => by first | exact h2 | omega)
   replace hXL10 := Bel.out hXL10 x83 (fun g h1 h2 => by first | exact h2 | omega)
   refine Rg_nil (W_region ?_)
   refine Rr (o_add rfl rfl (by first | omega | (unfold I64; omega) | (simp; done) | (simp; omega) | (simp at *; omega))) ?_
   refine Rr (mvI rfl) ?_
   refine Rg_nil ?_
   refine ⟨k + 1, ⟨?_, trivial⟩, ?_, ⟨?_, hXL10, ?_⟩, ?_⟩
   ·first | rfl | (go_num) | (exact congrArg _ (by omega))
   ·repeat (first | exact oR _ _ | exact oM | refine oP rfl ?_ | refine oN ?_ | refine oL rfl ?_ | refine oX rfl ?_)
   ·omega
   ·rw [takeD (z := coz) (by omega)]; exact hkm
   ·omega
 replace hc1 := of_decide_eq_false hc1
 refine W_exit (exAt_hit (W_seq (W_region ?_)))
 refine Rr (o_moveh (v := .map _) rfl) ?_
 refine Rr (o_assignh (v := .map _) rfl) ?_
 refine Rg_nil (W_ret ?_)
 refine ⟨_, res_tmp rfl rfl, ?_⟩
 rw [List.take_of_length_le (by omega)] at hkm
 exact ⟨⟨m6, rfl, hkm.mono (fun g h1 h2 => ⟨by omega, h1⟩)⟩, hX⟩

end Go.Proofs.YtecjjgljkepajaaGreatDoor
