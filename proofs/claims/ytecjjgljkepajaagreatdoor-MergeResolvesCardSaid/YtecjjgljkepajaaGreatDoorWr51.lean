/- Walks: what functions return. -/
import Derived.Test.YtecjjgljkepajaaGreatDoorWref50
import Derived.Test.YtecjjgljkepajaaGreatDoorWmcmp
import Derived.Test.YtecjjgljkepajaaGreatDoorWl50
import Derived.Test.YtecjjgljkepajaaGreatDoorSt
set_option linter.unusedVariables false
set_option linter.unusedSimpArgs false
set_option linter.unnecessarySimpa false
namespace Go.Proofs.YtecjjgljkepajaaGreatDoor
open Go Go.Lx Go.RowKit
set_option maxRecDepth 100000
theorem rwith_ok (a : Option Addr) (c : Nat) (G : Nat → Prop) (l : List COp) (κ : OKey) (w : World) (hs : Sl encRo 8 G w a c l) (hn : l.length ≤ 100000) : Ok Tryz.prog 34 #[.slice a l.length c, .agg (encRk κ).toArray] w fun v w' => Own encRo 8 92 (Fsh w w') w' v (withK l κ) ∧ Ext False w w' := by
 have hlen := hs.len
 replace hs := hs.mono (F' := fun g => g < w.heap.size) (fun g h1 h2 => h1)
 refine Ok_of_W 24 Tryz.func34 rfl rfl rfl ?_
 have hX : Ext False w w := Bel.refl _ _
 refine W_seq (W_region ?_)
 refine Rg_newB rfl (o_box (v := .agg _) rfl) ?_
 intro b3 w1 x2 hge3 hb3
 have hlt3 := hb3.lt
 change Box _ _ _ (encRk _) at hb3
 have z3 := x2.size
 replace hX := hX.ex x2
 replace hs := hs.ext x2
 refine Rr o_assignc ?_
 refine Rg_nil (W_seq (W_region ?_))
 refine Rr o_assignc ?_
 refine Rg_nil (W_seq (W_seq (W_region ?_)))
 refine Rr (mvS rfl) ?_
 refine Rr (o_llen Tryz.underlying28 rfl) ?_
 refine Rr o_movec ?_
 refine Rg_nil (W_block ?_)
 refine W_for (α := Nat × Value) [(5, 5), (7, 7), (10, 22)] (fun q => [(10, .int .i64 (q.1 : Int)), (5, q.2)]) (fun q w' => (q.1 ≤ l.length) ∧ Bel False (fun g => w.heap.size ≤ g ∧ g ≠ b3) w1 w' ∧ (Own encRo 8 92 (fun g => w.heap.size ≤ g ∧ g ≠ b3) w' q.2 (withK (l.take q.1) κ))) (fun q => l.length - q.1) (0, .slice none 0 0) ⟨rfl, rfl, trivial⟩ ⟨Nat.zero_le _, Bel.refl _ _, Own.nil _ _⟩ ?_
 rintro ⟨k, t⟩ fb6 w5 ⟨hk, hXL4, hown⟩
 dsimp only at *
 have z7 := Bel.size hXL4
 replace hX := Bel.out hX hXL4 (fun g h1 h2 => by first | exact h2 | omega)
 replace hs := hs.keep hXL4 (fun g h1 h2 h3 => by omega)
 replace hb3 := hb3.keep hXL4 (fun h => by omega)
 refine W_seq (W_region ?_)
 refine Rr (o_lss rfl rfl) ?_
 refine Rg_nil (W_seq ?_)
 refine W_cond rfl (fun hc1 => ?_) (fun hc1 => ?_)
 ·replace hc1 := of_decide_eq_true hc1
  refine W_skip (W_seq (W_block (W_seq (W_region ?_))))
  refine Rr (o_iaR Tryz.underlying28 Tryz.sizeOf92 hs rfl rfl (by first | omega | (unfold I64; omega))) ?_
  refine Rr (o_ldRS Tryz.isAgg92 Tryz.sizeOf92 hs rfl (getE coz (by omega))) ?_
  refine Rg_alst rfl rfl Tryz.zeroValue92 rfl Tryz.sizeOf92 (fun _ => rfl) rfl rfl ?_
  intro b7 w8 x9 hge7 hb7
  replace hown := hown.mono (D' := fun g => w.heap.size ≤ g ∧ g ≠ b3 ∧ g ≠ b7) (fun g h1 h2 => by omega)
  have hlt7 := hb7.lt
  change Box _ _ _ (encRo _) at hb7
  have z10 := x9.size
  replace hX := hX.ex x9
  replace hXL4 := Bel.ex hXL4 x9
  replace hb3 := hb3.ext x9
  replace hown := hown.ext x9
  refine Rg_nil (W_seq ?_)
  apply W_draw (β := False) [peq _, peq _, peq _, peq _] 4 mixed (by kernel_rfl) rfl ⟨peq_stable _, peq_stable _, peq_stable _, peq_stable _, trivial⟩ ?ob5 ?fin5
  case ob5 =>
   refine OblL_cons (fun w11 x12 => ?_) ?_
   ·have z13 := x12.size
    have hb7 := hb7.ext x12
    refine bindP_nil ?_
    exact OpS_v rfl (o_loadS Tryz.isAgg92 Tryz.sizeOf92 rfl hb7.at rfl)
   refine OblL_cons (fun w14 x15 => ?_) ?_
   ·have z16 := x15.size
    refine bindP_eq (bindP_nil ?_)
    exact OpS_call rfl (o_call1 Tryz.call33 rfl) (rkey_ok (l.getD k coz) _)
   refine OblL_cons (fun w17 x18 => ?_) ?_
   ·have z19 := x18.size
    have hb3 := hb3.ext x18
    refine bindP_nil ?_
    exact OpS_v rfl (o_loadS Tryz.isAgg94 Tryz.sizeOf94 rfl hb3.at rfl)
   refine OblL_cons (fun w20 x21 => ?_) ?_
   ·have z22 := x21.size
    refine bindP_eq (bindP_eq (bindP_nil ?_))
    exact OpS_v rfl (o_teql eq_rk rfl rfl)
   exact OblL_nil
  case fin5 =>
   intro w23 x24
   have z25 := x24.size
   replace hX := hX.ex x24
   replace hXL4 := Bel.ex hXL4 x24
   replace hown := hown.ext x24
   replace hb7 := hb7.ext x24
   refine bindP_eq (bindP_eq (bindP_eq (bindP_eq (bindP_nil (Rg_nil ?_)))))
   refine W_cond rfl (fun hc2 => ?_) (fun hc2 => ?_)
   ·have hkk : (l.getD k coz).key = κ := eq_of_beq hc2
    refine W_region ?_
    refine Rr (o_moveh (v := t) rfl) ?_
    refine Rr (o_loadS Tryz.isAgg92 Tryz.sizeOf92 rfl hb7.at rfl) ?_
    refine Rg_bs (vs := [.agg _]) ([(l.getD k coz)]) rfl encRo_ok el_ro rfl rfl ⟨rfl, trivial⟩ rfl rfl rfl rfl ?_
    intro a20 w26 x27 hown20
    have z28 := x27.size
    replace hX := hX.ex x27
    replace hXL4 := Bel.ex hXL4 x27
    replace hown := hown.ext x27
    replace hown20 := hown20.mono (D' := fun g => w.heap.size ≤ g ∧ g ≠ b3) (fun g h1 h2 => by omega)
    refine Rg_app rfl encRo_ok el_ro rfl rfl hown (hown20.slA encRo_ok) rfl (by have := withK_len (l.take k) κ; rw [List.length_take] at this; rw [List.length_singleton]; omega) (fun g h => by omega) ?_
    intro v21 w29 x30 hown
    have z31 := x30.size
    replace hX := Bel.out hX x30 (fun g h1 h2 => by first | exact h2 | omega)
    replace hXL4 := Bel.out hXL4 x30 (fun g h1 h2 => by first | exact h2 | omega)
    refine Rr (o_assignh (v := v21) rfl) ?_
    refine Rg_nil (W_region ?_)
    refine Rr (o_add rfl rfl (by first | omega | (unfold I64; omega))) ?_
    refine Rr (mvI rfl) ?_
    refine Rg_nil ?_
    refine ⟨(k + 1, v21), ⟨?_, ?_, trivial⟩, ?_, ⟨?_, hXL4, ?_⟩, ?_⟩
    ·first | rfl | (go_num) | (exact congrArg _ (by omega))
    ·first | rfl | (go_num) | (exact congrArg _ (by omega))
    ·repeat (first | exact oR _ _ | exact oM | refine oP rfl ?_ | refine oN ?_ | refine oL rfl ?_ | refine oX rfl ?_)
    ·show k + 1 ≤ l.length; omega
    ·show Own _ _ _ _ _ _ (withK (l.take (k + 1)) κ)
     rw [withK_take (by omega), if_pos hkk]; exact hown.mono (fun g h1 h2 => by omega)
    ·show l.length - (k + 1) < l.length - k; omega
   have hkk : ¬ (l.getD k coz).key = κ := ne_of_beq_false hc2
   refine W_skip (W_region ?_)
   refine Rr (o_add rfl rfl (by first | omega | (unfold I64; omega))) ?_
   refine Rr (mvI rfl) ?_
   refine Rg_nil ?_
   refine ⟨(k + 1, t), ⟨?_, ?_, trivial⟩, ?_, ⟨?_, hXL4, ?_⟩, ?_⟩
   ·first | rfl | (go_num) | (exact congrArg _ (by omega))
   ·first | rfl | (go_num) | (exact congrArg _ (by omega))
   ·repeat (first | exact oR _ _ | exact oM | refine oP rfl ?_ | refine oN ?_ | refine oL rfl ?_ | refine oX rfl ?_)
   ·show k + 1 ≤ l.length; omega
   ·show Own _ _ _ _ _ _ (withK (l.take (k + 1)) κ)
    rw [withK_take (by omega), if_neg hkk]; exact hown.mono (fun g h1 h2 => by omega)
   ·show l.length - (k + 1) < l.length - k; omega
 replace hc1 := of_decide_eq_false hc1
 refine W_exit (exAt_hit (W_seq (W_region ?_)))
 refine Rr (o_moveh (v := t) rfl) ?_
 refine Rr (o_assignh (v := t) rfl) ?_
 refine Rg_nil (W_ret ?_)
 refine ⟨_, res_tmp rfl rfl, ?_⟩
 rw [List.take_of_length_le (by omega)] at hown
 exact ⟨hown.mono (fun g h1 h2 => by omega), hX⟩

theorem rsame_ok (a b : Option Addr) (c d : Nat) (A C : Nat → Prop) (x y : List COp) (w : World) (hx : Sl encRo 8 A w a c x) (hy : Sl encRo 8 C w b d y) : Ok Tryz.prog 35 #[.slice a x.length c, .slice b y.length d] w fun v w' => v = .bool (x == y) ∧ Ext False w w' := by
 have hlx := hx.len; have hly := hy.len
 replace hx := hx.mono (F' := fun g => g < w.heap.size) (fun g h1 h2 => h1)
 replace hy := hy.mono (F' := fun g => g < w.heap.size) (fun g h1 h2 => h1)
 refine Ok_of_W 26 Tryz.func35 rfl rfl rfl ?_
 have hX : Ext False w w := Bel.refl _ _
 refine W_seq (W_region ?_)
 refine Rr o_assignc ?_
 refine Rg_nil (W_seq (W_seq (W_region ?_)))
 refine Rr (mvS rfl) ?_
 refine Rr (o_llen Tryz.underlying28 rfl) ?_
 refine Rr (mvS rfl) ?_
 refine Rr (o_llen Tryz.underlying28 rfl) ?_
 refine Rr (o_neq rfl rfl) ?_
 refine Rg_nil ?_
 refine W_cond rfl (fun hc1 => ?_) (fun hc1 => ?_)
 ·skip
  refine W_seq (W_region ?_)
  refine Rr o_assignc ?_
  refine Rg_nil (W_ret ?_)
  refine ⟨_, res_tmp rfl rfl, ?_⟩
  refine ⟨congrArg Value.bool ?_, hX⟩
  all_goals (exact (eqT_len (by simpa using hc1)).symm)
 have hle : (x.length : Int) = y.length := by simpa using hc1
 refine W_skip (W_seq (W_seq (W_region ?_)))
 refine Rr (mvS rfl) ?_
 refine Rr (o_llen Tryz.underlying28 rfl) ?_
 refine Rr o_movec ?_
 refine Rg_nil (W_block ?_)
 refine W_for (α := Nat) [(4, 6), (14, 25)] (fun k => [(14, .int .i64 (k : Int))]) (fun k w' => (k ≤ x.length ∧ x.take k = y.take k) ∧ Ext False w w') (fun k => x.length - k) 0 ⟨rfl, trivial⟩ ⟨⟨by omega, by simp⟩, Bel.refl _ _⟩ ?_
 rintro k fb3 w2 ⟨⟨hk, hall⟩, hXL1⟩
 have z4 := Bel.size hXL1
 replace hX := hX.ex hXL1
 replace hx := hx.ext hXL1
 replace hy := hy.ext hXL1
 refine W_seq (W_region ?_)
 refine Rr (o_lss rfl rfl) ?_
 refine Rg_nil (W_seq ?_)
 refine W_cond rfl (fun hc2 => ?_) (fun hc2 => ?_)
 ·replace hc2 := of_decide_eq_true hc2
  refine W_skip (W_seq (W_block (W_seq (W_region ?_))))
  refine Rr (mvI rfl) ?_
  refine Rr (o_iaR Tryz.underlying28 Tryz.sizeOf92 hx rfl rfl (by first | omega | (unfold I64; omega))) ?_
  refine Rr (o_ldRS Tryz.isAgg92 Tryz.sizeOf92 hx rfl (getE coz (by omega))) ?_
  refine Rg_newB rfl (o_alloc Tryz.zeroValue92) ?_
  intro b6 w5 x6 hge6 hb6
  have hlt6 := hb6.lt
  change Box _ _ _ ([.bool _, .int _ _, .int _ _, .int _ _, .int _ _, str _, str _, .bool _]) at hb6
  have z7 := x6.size
  replace hX := hX.ex x6
  replace hXL1 := Bel.ex hXL1 x6
  replace hy := hy.ext x6
  refine Rr (asI rfl) ?_
  refine Rg_storeW (v := .agg _) rfl Tryz.sizeOf92 rfl rfl hb6 rfl rfl rfl ?_
  intro w8 c9 hb6
  change Box _ _ _ (encRo _) at hb6
  have z10 := Bel.size c9
  replace hX := Bel.out hX c9 (fun g h1 h2 => by first | exact h2 | omega)
  replace hXL1 := Bel.out hXL1 c9 (fun g h1 h2 => by first | exact h2 | omega)
  replace hy := hy.keep c9 (fun g h1 h2 h3 => by omega)
  refine Rg_nil (W_seq ?_)
  apply W_draw (β := False) [peq _, peq _, peq _, peq _, peq _, peq _] 6 mixed (by kernel_rfl) rfl ⟨peq_stable _, peq_stable _, peq_stable _, peq_stable _, peq_stable _, peq_stable _, trivial⟩ ?ob6 ?fin6
  case ob6 =>
   refine OblL_cons (fun w11 x12 => ?_) ?_
   ·have z13 := x12.size
    have hb6 := hb6.ext x12
    refine bindP_nil ?_
    exact OpS_v rfl (o_loadS Tryz.isAgg92 Tryz.sizeOf92 rfl hb6.at rfl)
   refine OblL_cons (fun w14 x15 => ?_) ?_
   ·have z16 := x15.size
    refine bindP_nil ?_
    exact OpS_v rfl (mvS rfl)
   refine OblL_cons (fun w17 x18 => ?_) ?_
   ·have z19 := x18.size
    refine bindP_nil ?_
    exact OpS_v rfl (mvI rfl)
   refine OblL_cons (fun w20 x21 => ?_) ?_
   ·have z22 := x21.size
    have hy := hy.ext x21
    refine bindP_eq (bindP_eq (bindP_nil ?_))
    exact OpS_v rfl (o_iaR Tryz.underlying28 Tryz.sizeOf92 hy rfl rfl (by first | omega | (unfold I64; omega)))
   refine OblL_cons (fun w23 x24 => ?_) ?_
   ·have z25 := x24.size
    have hy := hy.ext x24
    refine bindP_eq (bindP_nil ?_)
    exact OpS_v rfl (o_ldRS Tryz.isAgg92 Tryz.sizeOf92 hy rfl (getE coz (by omega)))
   refine OblL_cons (fun w26 x27 => ?_) ?_
   ·have z28 := x27.size
    refine bindP_eq (bindP_eq (bindP_nil ?_))
    exact OpS_v rfl (o_tneq eq_ro rfl rfl)
   exact OblL_nil
  case fin6 =>
   intro w29 x30
   have z31 := x30.size
   replace hX := hX.ex x30
   replace hXL1 := Bel.ex hXL1 x30
   refine bindP_eq (bindP_eq (bindP_eq (bindP_eq (bindP_eq (bindP_eq (bindP_nil (Rg_nil ?_)))))))
   refine W_cond rfl (fun hc3 => ?_) (fun hc3 => ?_)
   ·refine W_seq (W_region ?_)
    refine Rr o_assignc ?_
    refine Rg_nil (W_ret ?_)
    refine ⟨_, res_tmp rfl rfl, ?_⟩
    refine ⟨congrArg Value.bool ?_, hX⟩
    all_goals (exact (eqT_ne (z := coz) (k := k) (by simpa using hc3)).symm)
   refine W_skip (W_region ?_)
   refine Rr (o_add rfl rfl (by first | omega | (unfold I64; omega))) ?_
   refine Rr (mvI rfl) ?_
   refine Rg_nil ?_
   refine ⟨k + 1, ⟨?_, trivial⟩, ?_, ⟨?_, hXL1⟩, ?_⟩
   ·first | rfl | (go_num) | (exact congrArg _ (by omega))
   ·repeat (first | exact oR _ _ | exact oM | refine oP rfl ?_ | refine oN ?_ | refine oL rfl ?_ | refine oX rfl ?_)
   ·exact ⟨by omega, eqT_succ (z := coz) (by omega) (by omega) hall (by simpa using hc3)⟩
   ·omega
 replace hc2 := of_decide_eq_false hc2
 refine W_exit (exAt_hit (W_seq (W_region ?_)))
 refine Rr o_assignc ?_
 refine Rg_nil (W_ret ?_)
 refine ⟨_, res_tmp rfl rfl, ?_⟩
 refine ⟨congrArg Value.bool ?_, hX⟩
 all_goals (exact (eqT_end (k := k) (by omega) (by omega) hall).symm)

set_option maxHeartbeats 4000000 in
theorem rsets_ok (a b : Option Addr) (c d : Nat) (G H : Nat → Prop) (X Y : List COp) (w : World) (hs : Sl encRo 8 G w a c X) (ht : Sl encRo 8 H w b d Y) (hn : X.length ≤ 100) (hm : Y.length ≤ 100) (hX0 : VS X) (hY0 : VS Y) : Ok Tryz.prog 9 #[.slice a X.length c, .slice b Y.length d] w fun v w' => (∃ u u', v = .tuple #[u, u'] ∧ Own encRo 8 92 (Fsh w w') w' u (sortO (bothO X Y)) ∧ Own encRc 22 98 (Fsh w w') w' u' (cflO X Y) ∧ ∀ g, u.ownBlock = some g → u'.ownBlock ≠ some g) ∧ Ext False w w' := by
 have hlen := hs.len; have hlen2 := ht.len
 replace hs := hs.mono (F' := fun g => g < w.heap.size) (fun g h1 h2 => h1)
 replace ht := ht.mono (F' := fun g => g < w.heap.size) (fun g h1 h2 => h1)
 refine Ok_of_W 95 Tryz.func9 rfl rfl rfl ?_
 have hX : Ext False w w := Bel.refl _ _
 refine W_seq (W_region ?_)
 refine Rr o_assignc ?_
 refine Rr o_assignc ?_
 refine Rg_nil (W_seq (W_region ?_))
 obtain ⟨n6, hn6⟩ : ∃ n, n = w.heap.size := ⟨_, rfl⟩
 refine Rg_enter rfl (o_call1 Tryz.call32 rfl) (Ok.mono (rof_ok _ (.slice none 0 0) [] ⟨none, 0, rfl, Sl.none⟩ (by decide) (by simp)) ?_)
 rintro _ w1 ⟨⟨u19, rfl, hown19⟩, x2⟩
 have z3 := x2.size
 replace hX := hX.ex x2
 replace hs := hs.ext x2
 replace ht := ht.ext x2
 refine Rr (o_moveh (v := .tuple _) rfl) ?_
 refine Rr (o_extract rfl rfl) ?_
 refine Rr (o_extract rfl rfl) ?_
 refine Rr (o_assignh (v := u19) rfl) ?_
 refine Rr (asI rfl) ?_
 refine Rg_nil (W_seq (W_region ?_))
 refine Rr o_assignc ?_
 refine Rg_nil (W_seq (W_seq (W_region ?_)))
 refine Rr (mvS rfl) ?_
 refine Rr (o_llen Tryz.underlying28 rfl) ?_
 refine Rr o_movec ?_
 refine Rg_nil (W_block ?_)
 refine W_for (α := Nat × Value × Value) [(6, 6), (8, 8), (10, 13), (24, 70)] (fun q => [(24, .int .i64 (q.1 : Int)), (6, q.2.1), (8, q.2.2)]) (fun q w' => (q.1 ≤ X.length) ∧ Bel False (fun g => n6 ≤ g) w1 w' ∧ (Own encRo 8 92 (fun g => n6 ≤ g) w' q.2.1 ((X.take q.1).filter fun o => goodB X Y o.key) ∧ Own encRc 22 98 (fun g => n6 ≤ g) w' q.2.2 (((X.take q.1).filter fun o => !goodB X Y o.key && isFst X o).map fun o => mkC X Y o.key) ∧ ∀ g, q.2.1.ownBlock = some g → q.2.2.ownBlock ≠ some g)) (fun q => X.length - q.1) (0, u19, .slice none 0 0) ⟨rfl, rfl, rfl, trivial⟩ ⟨Nat.zero_le _, Bel.refl _ _, ⟨hown19.mono (fun g h1 h2 => by omega), Own.nil _ _, fun g _ h => by simp [Value.ownBlock] at h⟩⟩ ?_
 rintro ⟨k, t, u⟩ fb6 w5 ⟨hk, hXL4, ⟨hown6, hown8, hne⟩⟩
 dsimp only at *
 have z7 := Bel.size hXL4
 replace hX := Bel.out hX hXL4 (fun g h1 h2 => by first | exact h2 | omega)
 replace hs := hs.keep hXL4 (fun g h1 h2 h3 => by omega)
 replace ht := ht.keep hXL4 (fun g h1 h2 h3 => by omega)
 refine W_seq (W_region ?_)
 refine Rr (o_lss rfl rfl) ?_
 refine Rg_nil (W_seq ?_)
 refine W_cond rfl (fun hc1 => ?_) (fun hc1 => ?_)
 ·have hk1 : k < X.length := by have := of_decide_eq_true hc1; omega
  refine W_skip (W_seq (W_block (W_seq (W_region ?_))))
  refine Rr (o_iaR Tryz.underlying28 Tryz.sizeOf92 hs rfl rfl (by first | omega | (unfold I64; omega))) ?_
  refine Rr (o_ldRS Tryz.isAgg92 Tryz.sizeOf92 hs rfl (getE coz (by omega))) ?_
  refine Rg_alst rfl rfl Tryz.zeroValue92 rfl Tryz.sizeOf92 (fun _ => rfl) rfl rfl ?_
  intro b10 w8 x9 hge10 hb10
  replace hown6 := hown6.mono (D' := fun g => n6 ≤ g ∧ g ≠ b10) (fun g h1 h2 => by omega)
  replace hown8 := hown8.mono (D' := fun g => n6 ≤ g ∧ g ≠ b10) (fun g h1 h2 => by omega)
  have hlt10 := hb10.lt
  change Box _ _ _ (encRo _) at hb10
  have z10 := x9.size
  replace hX := hX.ex x9
  replace hXL4 := Bel.ex hXL4 x9
  replace hs := hs.ext x9
  replace ht := ht.ext x9
  replace hown6 := hown6.ext x9
  replace hown8 := hown8.ext x9
  refine Rg_nil (W_seq (W_region ?_))
  refine Rr (o_loadS Tryz.isAgg92 Tryz.sizeOf92 rfl hb10.at rfl) ?_
  refine Rg_enter rfl (o_call1 Tryz.call33 rfl) (Ok.mono (rkey_ok (X.getD k coz) _) ?_)
  rintro _ w11 ⟨rfl, x12⟩
  have z13 := x12.size
  replace hX := hX.ex x12
  replace hXL4 := Bel.ex hXL4 x12
  replace hs := hs.ext x12
  replace ht := ht.ext x12
  replace hown6 := hown6.ext x12
  replace hown8 := hown8.ext x12
  replace hb10 := hb10.ext x12
  refine Rg_alst rfl rfl Tryz.zeroValue94 rfl Tryz.sizeOf94 (fun _ => rfl) rfl rfl ?_
  intro b11 w14 x15 hge11 hb11
  replace hown6 := hown6.mono (D' := fun g => n6 ≤ g ∧ g ≠ b10 ∧ g ≠ b11) (fun g h1 h2 => by omega)
  replace hown8 := hown8.mono (D' := fun g => n6 ≤ g ∧ g ≠ b10 ∧ g ≠ b11) (fun g h1 h2 => by omega)
  have hlt11 := hb11.lt
  change Box _ _ _ (encRk _) at hb11
  have z16 := x15.size
  replace hX := hX.ex x15
  replace hXL4 := Bel.ex hXL4 x15
  replace hs := hs.ext x15
  replace ht := ht.ext x15
  replace hown6 := hown6.ext x15
  replace hown8 := hown8.ext x15
  replace hb10 := hb10.ext x15
  refine Rg_nil (W_seq ?_)
  obtain ⟨n8, hn8⟩ : ∃ n, n = w14.heap.size := ⟨_, rfl⟩
  have hw1 := mem_with (l := X) (k := k) (by omega)
  have hp1 := List.length_pos_iff.2 hw1
  have hl8 : ∀ g, u.ownBlock = some g → n6 ≤ g ∧ g < n8 ∧ g ≠ b10 ∧ g ≠ b11 := fun g h => by have h1 := hown8.lt g h; have h2 := hown8.loc g h; omega
  have hl6 : ∀ g, t.ownBlock = some g → g < n8 := fun g h => by have h1 := hown6.lt g h; omega
  apply W_drawC (β := False) (fun _ => 0) [peqC _, peqC _, (postW (ListIs encRo 8 n8 (fun M => M = withK X (X.getD k coz).key))), peqC _, peqC _, (postW (ListIs encRo 8 n8 (fun M => M = withK Y (X.getD k coz).key))), (postW (ListIs encRo 8 n8 (fun M => M = withK X (X.getD k coz).key)))] [0, 0, 0, 0, 0, 0, 0] 7 mixed (by kernel_rfl) (by kernel_rfl) rfl ⟨peqC_stable _ _, peqC_stable _ _, (postW_stable (ListIs.keepS _ _ _ _)), peqC_stable _ _, peqC_stable _ _, (postW_stable (ListIs.keepS _ _ _ _)), (postW_stable (ListIs.keepS _ _ _ _)), trivial⟩ ?ob7 ?fin7
  case ob7 =>
   refine OblC_cons (fun w17 c19 x18 hc020 hk21 => ?_) ?_
   ·replace x18 := RelG.ext0 x18
    have z22 := x18.size
    refine bindC_nil ?_
    exact OpC_v rfl (mvS rfl)
   refine OblC_cons (fun w23 c25 x24 hc026 hk27 => ?_) ?_
   ·replace x24 := RelG.ext0 x24
    have z28 := x24.size
    have hb11 := hb11.ext x24
    refine bindC_nil ?_
    exact OpC_v rfl (o_loadS Tryz.isAgg94 Tryz.sizeOf94 rfl hb11.at rfl)
   refine OblC_cons (fun w29 c31 x30 hc032 hk33 => ?_) ?_
   ·replace x30 := RelG.ext0 x30
    have z34 := x30.size
    have hs := hs.ext x30
    refine bindC_eq (bindC_eq (bindC_nil ?_))
    exact OpC_W (S := ListIs encRo 8 n8 (fun M => M = withK X (X.getD k coz).key)) rfl (o_call2 Tryz.call34 rfl rfl) ((rwith_ok a c _ X (X.getD k coz).key _ hs (by omega)).mono (fun v w2 ⟨h1, x⟩ => ⟨⟨fun g hg => by have := hg.1; omega, _, h1.rd encRo_ok, rfl⟩, x⟩))
   refine OblC_cons (fun w35 c37 x36 hc038 hk39 => ?_) ?_
   ·replace x36 := RelG.ext0 x36
    have z40 := x36.size
    refine bindC_nil ?_
    exact OpC_v rfl (mvS rfl)
   refine OblC_cons (fun w41 c43 x42 hc044 hk45 => ?_) ?_
   ·replace x42 := RelG.ext0 x42
    have z46 := x42.size
    have hb11 := hb11.ext x42
    refine bindC_nil ?_
    exact OpC_v rfl (o_loadS Tryz.isAgg94 Tryz.sizeOf94 rfl hb11.at rfl)
   refine OblC_cons (fun w47 c49 x48 hc050 hk51 => ?_) ?_
   ·replace x48 := RelG.ext0 x48
    have z52 := x48.size
    have ht := ht.ext x48
    refine bindC_eq (bindC_eq ?_)
    refine bindC_mem (fun v32 hv32 => ?_)
    obtain ⟨F32, hF32, hn32, M32, ⟨a32, c32, rfl, hs32⟩, hm32⟩ := hv32
    subst hm32
    refine bindC_nil ?_
    exact OpC_W (S := ListIs encRo 8 n8 (fun M => M = withK Y (X.getD k coz).key)) rfl (o_call2 Tryz.call34 rfl rfl) ((rwith_ok b d _ Y (X.getD k coz).key _ ht (by omega)).mono (fun v w2 ⟨h1, x⟩ => ⟨⟨fun g hg => by have := hg.1; omega, _, h1.rd encRo_ok, rfl⟩, x⟩))
   refine OblC_cons (fun w53 c55 x54 hc056 hk57 => ?_) ?_
   ·replace x54 := RelG.ext0 x54
    have z58 := x54.size
    refine bindC_mem (fun v32 hv32 => ?_)
    obtain ⟨F32, hF32, hn32, M32, ⟨a32, c32, rfl, hs32⟩, hm32⟩ := hv32
    subst hm32
    refine bindC_mem (fun v35 hv35 => ?_)
    refine bindC_eq (bindC_eq ?_)
    refine bindC_mem (fun v32 hv32 => ?_)
    obtain ⟨F32, hF32, hn32, M32, ⟨a32, c32, rfl, hs32⟩, hm32⟩ := hv32
    subst hm32
    refine bindC_nil ?_
    exact OpC_vp rfl (o_assignh rfl) ⟨F32, hF32, hn32, _, ⟨a32, c32, rfl, hs32⟩, rfl⟩
   exact OblC_nil
  case fin7 =>
   intro w59 c61 x60 hc062
   replace x60 := RelG.ext0 x60
   have z63 := x60.size
   replace hX := hX.ex x60
   replace hXL4 := Bel.ex hXL4 x60
   replace hown6 := hown6.ext x60
   replace hown8 := hown8.ext x60
   replace hb10 := hb10.ext x60
   replace hb11 := hb11.ext x60
   refine bindC_eq (bindC_eq ?_)
   refine bindC_mem (fun v32 hv32 => ?_)
   obtain ⟨F32, hF32, hn32, M32, ⟨a32, c32, rfl, hs32⟩, hm32⟩ := hv32
   subst hm32
   refine bindC_eq (bindC_eq ?_)
   refine bindC_mem (fun v35 hv35 => ?_)
   refine bindC_mem (fun v12 hv12 => ?_)
   refine bindC_nil ?_
   obtain ⟨F35, hF35, hn35, M35, ⟨a35, c35, rfl, hs35⟩, hm35⟩ := hv35
   subst hm35
   replace hs35 := hs35.mono (F' := fun g => n8 ≤ g) (fun g _ h => hn35 g h)
   obtain ⟨F12, hF12, hn12, M12, ⟨a12, c12, rfl, hs12⟩, hm12⟩ := hv12
   subst hm12
   replace hs12 := hs12.mono (F' := fun g => n8 ≤ g) (fun g _ h => hn12 g h)
   refine Rr (asS rfl) ?_
   refine Rg_nil (W_seq (W_region ?_))
   refine (Decidable.em (withK Y (X.getD k coz).key = [])).elim (fun hye => ?_) (fun hye => ?_)
   ·refine Rr (mvS rfl) ?_
    refine Rr (o_llen Tryz.underlying28 rfl) ?_
    refine Rr (o_eql rfl rfl) ?_
    refine Rr (mvB rfl) ?_
    refine Rg_off 3 39 rfl rfl (congrArg Value.bool (by rw [hye] <;> rfl)) rfl rfl ?_
    refine Rg_off 3 39 rfl rfl (congrArg Value.bool (by rw [hye] <;> rfl)) rfl rfl ?_
    refine Rg_off 3 39 rfl rfl (congrArg Value.bool (by rw [hye] <;> rfl)) rfl rfl ?_
    refine Rr (o_pickT (v := .bool _) (congrArg Value.bool (by rw [hye] <;> rfl)) rfl) ?_
    refine Rg_nil ?_
    refine W_cond_true rfl ?_
    refine W_region ?_
    obtain ⟨n7, hn7⟩ : ∃ n, n = w59.heap.size := ⟨_, rfl⟩
    have hlo : ∀ g, u.ownBlock = some g → g < n7 := fun g h => by have := hown8.lt g h; omega
    replace hown6 := hown6.at (D' := fun g => (t.ownBlock = some g ∧ n6 ≤ g ∧ g < n7) ∨ n7 ≤ g) (fun g hg hv => .inl ⟨hv, by have := hown6.loc g hv; omega, by omega⟩)
    refine Rr (o_moveh (v := t) rfl) ?_
    refine Rr (o_loadS Tryz.isAgg92 Tryz.sizeOf92 rfl hb10.at rfl) ?_
    refine Rg_bs (vs := [.agg _]) ([(X.getD k coz)]) rfl encRo_ok el_ro rfl rfl ⟨rfl, trivial⟩ rfl rfl rfl rfl ?_
    intro a46 w64 x65 hown46
    have z66 := x65.size
    replace hX := hX.ex x65
    replace hXL4 := Bel.ex hXL4 x65
    replace hown6 := hown6.ext x65
    replace hown8 := hown8.ext x65
    replace hown46 := hown46.mono (D' := fun g => n6 ≤ g) (fun g h1 h2 => by omega)
    refine Rg_app rfl encRo_ok el_ro rfl rfl hown6 (hown46.slA encRo_ok) rfl (by have h1 := List.length_filter_le (fun o : COp => goodB X Y o.key) (X.take k); rw [List.length_take] at h1; rw [List.length_singleton]; omega) (fun g h => .inr (by omega)) ?_
    intro v47 w67 x68 hown6
    have z69 := x68.size
    replace hX := Bel.out hX x68 (fun g h1 h2 => by first | exact h2 | omega)
    replace hXL4 := Bel.out hXL4 x68 (fun g h1 h2 => by first | exact h2 | omega)
    replace hown8 := hown8.keep x68 (fun g hg hv h => by have := hown8.loc g hv; first | omega | (rcases h with h | h <;> first | exact hne g h.1 hv | (have := hlo g hv; omega)))
    refine Rr (o_assignh (v := v47) rfl) ?_
    refine Rg_nil (W_region ?_)
    refine Rr (o_add rfl rfl (by first | omega | (unfold I64; omega))) ?_
    refine Rr (mvI rfl) ?_
    refine Rg_nil ?_
    refine ⟨(k + 1, v47, u), ⟨?_, ?_, ?_, trivial⟩, ?_, ⟨?_, hXL4, ?_⟩, ?_⟩
    ·first | rfl | (go_num) | (exact congrArg _ (by omega))
    ·first | rfl | (go_num) | (exact congrArg _ (by omega))
    ·first | rfl | (go_num) | (exact congrArg _ (by omega))
    ·repeat (first | exact oR _ _ | exact oM | refine oP rfl ?_ | refine oN ?_ | refine oL rfl ?_ | refine oX rfl ?_)
    ·show k + 1 ≤ X.length; omega
    ·have hg := good_a (A := X) (B := Y) hye
     refine ⟨?_, ?_, fun g h => ?_⟩
     ·show Own _ _ _ _ _ _ ((X.take (k + 1)).filter _)
      rw [filt_succ (z := coz) (by omega), if_pos hg]; exact hown6.mono (fun g h1 h2 => by omega)
     ·show Own _ _ _ _ _ _ (((X.take (k + 1)).filter _).map _)
      rw [mapf_succ (z := coz) (by omega), if_neg (by rw [hg]; simp), List.append_nil]; exact hown8.mono (fun g h1 h2 => by omega)
     ·rcases hown6.loc g h with q | q
      ·exact hne g q.1
      ·exact fun h2 => by have := hlo g h2; omega
    ·show X.length - (k + 1) < X.length - k; omega
   refine Rr (mvS rfl) ?_
   refine Rr (o_llen Tryz.underlying28 rfl) ?_
   refine Rr (o_eql rfl rfl) ?_
   refine Rr (mvB rfl) ?_
   refine Rg_on 3 39 rfl (congrArg Value.bool (by rw [len_ne hye] <;> rfl)) ?_
   refine Rr (mvS rfl) ?_
   refine Rg_on 3 39 rfl (congrArg Value.bool (by rw [len_ne hye] <;> rfl)) ?_
   refine Rr (mvS rfl) ?_
   refine Rg_on 3 39 rfl (congrArg Value.bool (by rw [len_ne hye] <;> rfl)) ?_
   refine Rg_enter rfl (o_call2 Tryz.call35 rfl rfl) (Ok.mono (rsame_ok _ _ _ _ _ _ _ _ _ hs12 hs35) ?_)
   rintro _ w70 ⟨rfl, x71⟩
   have z72 := x71.size
   replace hX := hX.ex x71
   replace hXL4 := Bel.ex hXL4 x71
   replace hown6 := hown6.ext x71
   replace hown8 := hown8.ext x71
   replace hb10 := hb10.ext x71
   replace hb11 := hb11.ext x71
   replace hs35 := hs35.ext x71
   replace hs12 := hs12.ext x71
   refine Rr (o_pickF (v := .bool _) (congrArg Value.bool (by rw [len_ne hye] <;> rfl)) rfl) ?_
   refine Rg_nil ?_
   refine W_cond rfl (fun hc3 => ?_) (fun hc3 => ?_)
   ·have hg := good_b' (A := X) (B := Y) hc3
    refine W_region ?_
    obtain ⟨n7, hn7⟩ : ∃ n, n = w70.heap.size := ⟨_, rfl⟩
    have hlo : ∀ g, u.ownBlock = some g → g < n7 := fun g h => by have := hown8.lt g h; omega
    replace hown6 := hown6.at (D' := fun g => (t.ownBlock = some g ∧ n6 ≤ g ∧ g < n7) ∨ n7 ≤ g) (fun g hg hv => .inl ⟨hv, by have := hown6.loc g hv; omega, by omega⟩)
    refine Rr (o_moveh (v := t) rfl) ?_
    refine Rr (o_loadS Tryz.isAgg92 Tryz.sizeOf92 rfl hb10.at rfl) ?_
    refine Rg_bs (vs := [.agg _]) ([(X.getD k coz)]) rfl encRo_ok el_ro rfl rfl ⟨rfl, trivial⟩ rfl rfl rfl rfl ?_
    intro a46 w73 x74 hown46
    have z75 := x74.size
    replace hX := hX.ex x74
    replace hXL4 := Bel.ex hXL4 x74
    replace hown6 := hown6.ext x74
    replace hown8 := hown8.ext x74
    replace hown46 := hown46.mono (D' := fun g => n6 ≤ g) (fun g h1 h2 => by omega)
    refine Rg_app rfl encRo_ok el_ro rfl rfl hown6 (hown46.slA encRo_ok) rfl (by have h1 := List.length_filter_le (fun o : COp => goodB X Y o.key) (X.take k); rw [List.length_take] at h1; rw [List.length_singleton]; omega) (fun g h => .inr (by omega)) ?_
    intro v47 w76 x77 hown6
    have z78 := x77.size
    replace hX := Bel.out hX x77 (fun g h1 h2 => by first | exact h2 | omega)
    replace hXL4 := Bel.out hXL4 x77 (fun g h1 h2 => by first | exact h2 | omega)
    replace hown8 := hown8.keep x77 (fun g hg hv h => by have := hown8.loc g hv; first | omega | (rcases h with h | h <;> first | exact hne g h.1 hv | (have := hlo g hv; omega)))
    refine Rr (o_assignh (v := v47) rfl) ?_
    refine Rg_nil (W_region ?_)
    refine Rr (o_add rfl rfl (by first | omega | (unfold I64; omega))) ?_
    refine Rr (mvI rfl) ?_
    refine Rg_nil ?_
    refine ⟨(k + 1, v47, u), ⟨?_, ?_, ?_, trivial⟩, ?_, ⟨?_, hXL4, ?_⟩, ?_⟩
    ·first | rfl | (go_num) | (exact congrArg _ (by omega))
    ·first | rfl | (go_num) | (exact congrArg _ (by omega))
    ·first | rfl | (go_num) | (exact congrArg _ (by omega))
    ·repeat (first | exact oR _ _ | exact oM | refine oP rfl ?_ | refine oN ?_ | refine oL rfl ?_ | refine oX rfl ?_)
    ·show k + 1 ≤ X.length; omega
    ·refine ⟨?_, ?_, fun g h => ?_⟩
     ·show Own _ _ _ _ _ _ ((X.take (k + 1)).filter _)
      rw [filt_succ (z := coz) (by omega), if_pos hg]; exact hown6.mono (fun g h1 h2 => by omega)
     ·show Own _ _ _ _ _ _ (((X.take (k + 1)).filter _).map _)
      rw [mapf_succ (z := coz) (by omega), if_neg (by rw [hg]; simp), List.append_nil]; exact hown8.mono (fun g h1 h2 => by omega)
     ·rcases hown6.loc g h with q | q
      ·exact hne g q.1
      ·exact fun h2 => by have := hlo g h2; omega
    ·show X.length - (k + 1) < X.length - k; omega
   have hg := good_c' (A := X) (B := Y) hye hc3
   have hp2 := List.length_pos_iff.2 hye
   refine W_seq ?_
   apply W_draw (β := False) [peq _, peq _, peq _, peq _, peq _] 5 mixed (by kernel_rfl) rfl ⟨peq_stable _, peq_stable _, peq_stable _, peq_stable _, peq_stable _, trivial⟩ ?ob10 ?fin10
   case ob10 =>
    refine OblL_cons (fun w79 x80 => ?_) ?_
    ·have z81 := x80.size
     have hb10 := hb10.ext x80
     refine bindP_nil ?_
     exact OpS_v rfl (o_loadS Tryz.isAgg92 Tryz.sizeOf92 rfl hb10.at rfl)
    refine OblL_cons (fun w82 x83 => ?_) ?_
    ·have z84 := x83.size
     refine bindP_nil ?_
     exact OpS_v rfl (mvS rfl)
    refine OblL_cons (fun w85 x86 => ?_) ?_
    ·have z87 := x86.size
     have hs12 := hs12.ext x86
     refine bindP_eq (bindP_nil ?_)
     exact OpS_v rfl (o_iaR (i := 0) Tryz.underlying28 Tryz.sizeOf92 hs12 rfl rfl (List.length_pos_iff.2 hw1))
    refine OblL_cons (fun w88 x89 => ?_) ?_
    ·have z90 := x89.size
     have hs12 := hs12.ext x89
     refine bindP_eq (bindP_nil ?_)
     exact OpS_v rfl (o_ldRS Tryz.isAgg92 Tryz.sizeOf92 hs12 rfl (getE coz (show 0 < (withK X (X.getD k coz).key).length from List.length_pos_iff.2 hw1)))
    refine OblL_cons (fun w91 x92 => ?_) ?_
    ·have z93 := x92.size
     refine bindP_eq (bindP_eq (bindP_nil ?_))
     exact OpS_v rfl (o_teql eq_ro rfl rfl)
    exact OblL_nil
   case fin10 =>
    intro w94 x95
    have z96 := x95.size
    replace hX := hX.ex x95
    replace hXL4 := Bel.ex hXL4 x95
    replace hown6 := hown6.ext x95
    replace hown8 := hown8.ext x95
    replace hb11 := hb11.ext x95
    replace hs35 := hs35.ext x95
    replace hs12 := hs12.ext x95
    refine bindP_eq (bindP_eq (bindP_eq (bindP_eq (bindP_eq (bindP_nil (Rg_nil ?_))))))
    refine W_cond rfl (fun hc4 => ?_) (fun hc4 => ?_)
    ·have hf : isFst X (X.getD k coz) = true := fst_iff.trans hc4
     apply W_drawC (β := False) (fun b => if u.ownBlock = some b then 1 else 0) [peqC _, peqC _, peqC _, peqC _, peqC _, peqC _, peqC _, peqC _, peqC _, peqC _, peqC _, peqC _, peqC _, peqC _, peqC _, (fun v w c => ∃ a, v = .slice a 1 1 ∧ postOwn encRc 22 98 0 [(⟨(X.getD k coz).key, (withK X (X.getD k coz).key).getD ((withK X (X.getD k coz).key).length - 1) coz, (withK Y (X.getD k coz).key).getD ((withK Y (X.getD k coz).key).length - 1) coz⟩ : Cfl)] v w c), (postOwn encRc 22 98 1 ((((X.take k).filter fun o => !goodB X Y o.key && isFst X o).map fun o => mkC X Y o.key) ++ [(⟨(X.getD k coz).key, (withK X (X.getD k coz).key).getD ((withK X (X.getD k coz).key).length - 1) coz, (withK Y (X.getD k coz).key).getD ((withK Y (X.getD k coz).key).length - 1) coz⟩ : Cfl)]))] [0, 0, 0, 0, 0, 0, 0, 0, 0, 0, 0, 0, 0, 0, 0, 0, 1] 17 mixed (by kernel_rfl) (by kernel_rfl) rfl ⟨peqC_stable _ _, peqC_stable _ _, peqC_stable _ _, peqC_stable _ _, peqC_stable _ _, peqC_stable _ _, peqC_stable _ _, peqC_stable _ _, peqC_stable _ _, peqC_stable _ _, peqC_stable _ _, peqC_stable _ _, peqC_stable _ _, peqC_stable _ _, peqC_stable _ _, (postBs_stable), (postOwn_stable), trivial⟩ ?ob11 ?fin11
     case ob11 =>
      refine OblC_cons (fun w97 c99 x98 hc0100 hk101 => ?_) ?_
      ·replace x98 := Bel.mono x98 (D' := fun g => (u.ownBlock = some g ∧ n6 ≤ g ∧ g < n8 ∧ g ≠ b10 ∧ g ≠ b11)) (fun g hg h => (by have hv : u.ownBlock = some g := Classical.byContradiction fun hn => h (if_neg hn); exact ⟨hv, hl8 g hv⟩))
       have z102 := x98.size
       refine bindC_nil ?_
       exact OpC_v rfl (o_moveh (v := u) rfl)
      refine OblC_cons (fun w103 c105 x104 hc0106 hk107 => ?_) ?_
      ·replace x104 := Bel.mono x104 (D' := fun g => (u.ownBlock = some g ∧ n6 ≤ g ∧ g < n8 ∧ g ≠ b10 ∧ g ≠ b11)) (fun g hg h => (by have hv : u.ownBlock = some g := Classical.byContradiction fun hn => h (if_neg hn); exact ⟨hv, hl8 g hv⟩))
       have z108 := x104.size
       have hb11 := hb11.keep x104 (fun h => by omega)
       refine bindC_nil ?_
       exact OpC_v rfl (o_loadS Tryz.isAgg94 Tryz.sizeOf94 rfl hb11.at rfl)
      refine OblC_cons (fun w109 c111 x110 hc0112 hk113 => ?_) ?_
      ·replace x110 := Bel.mono x110 (D' := fun g => (u.ownBlock = some g ∧ n6 ≤ g ∧ g < n8 ∧ g ≠ b10 ∧ g ≠ b11)) (fun g hg h => (by have hv : u.ownBlock = some g := Classical.byContradiction fun hn => h (if_neg hn); exact ⟨hv, hl8 g hv⟩))
       have z114 := x110.size
       refine bindC_nil ?_
       exact OpC_v rfl (mvS rfl)
      refine OblC_cons (fun w115 c117 x116 hc0118 hk119 => ?_) ?_
      ·replace x116 := Bel.mono x116 (D' := fun g => (u.ownBlock = some g ∧ n6 ≤ g ∧ g < n8 ∧ g ≠ b10 ∧ g ≠ b11)) (fun g hg h => (by have hv : u.ownBlock = some g := Classical.byContradiction fun hn => h (if_neg hn); exact ⟨hv, hl8 g hv⟩))
       have z120 := x116.size
       refine bindC_nil ?_
       exact OpC_v rfl (mvS rfl)
      refine OblC_cons (fun w121 c123 x122 hc0124 hk125 => ?_) ?_
      ·replace x122 := Bel.mono x122 (D' := fun g => (u.ownBlock = some g ∧ n6 ≤ g ∧ g < n8 ∧ g ≠ b10 ∧ g ≠ b11)) (fun g hg h => (by have hv : u.ownBlock = some g := Classical.byContradiction fun hn => h (if_neg hn); exact ⟨hv, hl8 g hv⟩))
       have z126 := x122.size
       refine bindC_eq (bindC_nil ?_)
       exact OpC_v rfl (o_llen Tryz.underlying28 rfl)
      refine OblC_cons (fun w127 c129 x128 hc0130 hk131 => ?_) ?_
      ·replace x128 := Bel.mono x128 (D' := fun g => (u.ownBlock = some g ∧ n6 ≤ g ∧ g < n8 ∧ g ≠ b10 ∧ g ≠ b11)) (fun g hg h => (by have hv : u.ownBlock = some g := Classical.byContradiction fun hn => h (if_neg hn); exact ⟨hv, hl8 g hv⟩))
       have z132 := x128.size
       refine bindC_eq (bindC_nil ?_)
       exact OpC_v rfl (o_subN (p := (withK X (X.getD k coz).key).length) (b := 1) rfl rfl (by have := List.length_pos_iff.2 hw1; omega) (by have := withK_len X (X.getD k coz).key; omega))
      refine OblC_cons (fun w133 c135 x134 hc0136 hk137 => ?_) ?_
      ·replace x134 := Bel.mono x134 (D' := fun g => (u.ownBlock = some g ∧ n6 ≤ g ∧ g < n8 ∧ g ≠ b10 ∧ g ≠ b11)) (fun g hg h => (by have hv : u.ownBlock = some g := Classical.byContradiction fun hn => h (if_neg hn); exact ⟨hv, hl8 g hv⟩))
       have z138 := x134.size
       have hs12 := hs12.keep x134 (fun g h1 h2 h3 => by omega)
       refine bindC_eq (bindC_eq (bindC_nil ?_))
       exact OpC_v rfl (o_iaR Tryz.underlying28 Tryz.sizeOf92 hs12 rfl rfl (by first | omega | (unfold I64; omega)))
      refine OblC_cons (fun w139 c141 x140 hc0142 hk143 => ?_) ?_
      ·replace x140 := Bel.mono x140 (D' := fun g => (u.ownBlock = some g ∧ n6 ≤ g ∧ g < n8 ∧ g ≠ b10 ∧ g ≠ b11)) (fun g hg h => (by have hv : u.ownBlock = some g := Classical.byContradiction fun hn => h (if_neg hn); exact ⟨hv, hl8 g hv⟩))
       have z144 := x140.size
       have hs12 := hs12.keep x140 (fun g h1 h2 h3 => by omega)
       refine bindC_eq (bindC_nil ?_)
       exact OpC_v rfl (o_ldRS Tryz.isAgg92 Tryz.sizeOf92 hs12 rfl (getE coz (by have := List.length_pos_iff.2 hw1; omega)))
      refine OblC_cons (fun w145 c147 x146 hc0148 hk149 => ?_) ?_
      ·replace x146 := Bel.mono x146 (D' := fun g => (u.ownBlock = some g ∧ n6 ≤ g ∧ g < n8 ∧ g ≠ b10 ∧ g ≠ b11)) (fun g hg h => (by have hv : u.ownBlock = some g := Classical.byContradiction fun hn => h (if_neg hn); exact ⟨hv, hl8 g hv⟩))
       have z150 := x146.size
       refine bindC_nil ?_
       exact OpC_v rfl (mvS rfl)
      refine OblC_cons (fun w151 c153 x152 hc0154 hk155 => ?_) ?_
      ·replace x152 := Bel.mono x152 (D' := fun g => (u.ownBlock = some g ∧ n6 ≤ g ∧ g < n8 ∧ g ≠ b10 ∧ g ≠ b11)) (fun g hg h => (by have hv : u.ownBlock = some g := Classical.byContradiction fun hn => h (if_neg hn); exact ⟨hv, hl8 g hv⟩))
       have z156 := x152.size
       refine bindC_nil ?_
       exact OpC_v rfl (mvS rfl)
      refine OblC_cons (fun w157 c159 x158 hc0160 hk161 => ?_) ?_
      ·replace x158 := Bel.mono x158 (D' := fun g => (u.ownBlock = some g ∧ n6 ≤ g ∧ g < n8 ∧ g ≠ b10 ∧ g ≠ b11)) (fun g hg h => (by have hv : u.ownBlock = some g := Classical.byContradiction fun hn => h (if_neg hn); exact ⟨hv, hl8 g hv⟩))
       have z162 := x158.size
       refine bindC_eq (bindC_nil ?_)
       exact OpC_v rfl (o_llen Tryz.underlying28 rfl)
      refine OblC_cons (fun w163 c165 x164 hc0166 hk167 => ?_) ?_
      ·replace x164 := Bel.mono x164 (D' := fun g => (u.ownBlock = some g ∧ n6 ≤ g ∧ g < n8 ∧ g ≠ b10 ∧ g ≠ b11)) (fun g hg h => (by have hv : u.ownBlock = some g := Classical.byContradiction fun hn => h (if_neg hn); exact ⟨hv, hl8 g hv⟩))
       have z168 := x164.size
       refine bindC_eq (bindC_nil ?_)
       exact OpC_v rfl (o_subN (p := (withK Y (X.getD k coz).key).length) (b := 1) rfl rfl (by have := List.length_pos_iff.2 hye; omega) (by have := withK_len Y (X.getD k coz).key; omega))
      refine OblC_cons (fun w169 c171 x170 hc0172 hk173 => ?_) ?_
      ·replace x170 := Bel.mono x170 (D' := fun g => (u.ownBlock = some g ∧ n6 ≤ g ∧ g < n8 ∧ g ≠ b10 ∧ g ≠ b11)) (fun g hg h => (by have hv : u.ownBlock = some g := Classical.byContradiction fun hn => h (if_neg hn); exact ⟨hv, hl8 g hv⟩))
       have z174 := x170.size
       have hs35 := hs35.keep x170 (fun g h1 h2 h3 => by omega)
       refine bindC_eq (bindC_eq (bindC_nil ?_))
       exact OpC_v rfl (o_iaR Tryz.underlying28 Tryz.sizeOf92 hs35 rfl rfl (by first | omega | (unfold I64; omega)))
      refine OblC_cons (fun w175 c177 x176 hc0178 hk179 => ?_) ?_
      ·replace x176 := Bel.mono x176 (D' := fun g => (u.ownBlock = some g ∧ n6 ≤ g ∧ g < n8 ∧ g ≠ b10 ∧ g ≠ b11)) (fun g hg h => (by have hv : u.ownBlock = some g := Classical.byContradiction fun hn => h (if_neg hn); exact ⟨hv, hl8 g hv⟩))
       have z180 := x176.size
       have hs35 := hs35.keep x176 (fun g h1 h2 h3 => by omega)
       refine bindC_eq (bindC_nil ?_)
       exact OpC_v rfl (o_ldRS Tryz.isAgg92 Tryz.sizeOf92 hs35 rfl (getE coz (by have := List.length_pos_iff.2 hye; omega)))
      refine OblC_cons (fun w181 c183 x182 hc0184 hk185 => ?_) ?_
      ·replace x182 := Bel.mono x182 (D' := fun g => (u.ownBlock = some g ∧ n6 ≤ g ∧ g < n8 ∧ g ≠ b10 ∧ g ≠ b11)) (fun g hg h => (by have hv : u.ownBlock = some g := Classical.byContradiction fun hn => h (if_neg hn); exact ⟨hv, hl8 g hv⟩))
       have z186 := x182.size
       refine bindC_eq (bindC_eq (bindC_eq (bindC_nil ?_)))
       exact OpC_v rfl (o_build (cells := encRc (⟨(X.getD k coz).key, (withK X (X.getD k coz).key).getD ((withK X (X.getD k coz).key).length - 1) coz, (withK Y (X.getD k coz).key).getD ((withK Y (X.getD k coz).key).length - 1) coz⟩ : Cfl)) (vs := [(0, .agg _), (1, .agg _), (2, .agg _)]) rfl (by kernel_rfl))
      refine OblC_cons (fun w187 c189 x188 hc0190 hk191 => ?_) ?_
      ·replace x188 := Bel.mono x188 (D' := fun g => (u.ownBlock = some g ∧ n6 ≤ g ∧ g < n8 ∧ g ≠ b10 ∧ g ≠ b11)) (fun g hg h => (by have hv : u.ownBlock = some g := Classical.byContradiction fun hn => h (if_neg hn); exact ⟨hv, hl8 g hv⟩))
       have z192 := x188.size
       refine bindC_eq (bindC_nil ?_)
       exact OpC_bs (vs := [.agg _]) [(⟨(X.getD k coz).key, (withK X (X.getD k coz).key).getD ((withK X (X.getD k coz).key).length - 1) coz, (withK Y (X.getD k coz).key).getD ((withK Y (X.getD k coz).key).length - 1) coz⟩ : Cfl)] encRc_ok el_rc rfl rfl ⟨rfl, trivial⟩ rfl rfl rfl rfl
      refine OblC_cons (fun w193 c195 x194 hc0196 hk197 => ?_) ?_
      ·replace x194 := Bel.mono x194 (D' := fun g => (u.ownBlock = some g ∧ n6 ≤ g ∧ g < n8 ∧ g ≠ b10 ∧ g ≠ b11)) (fun g hg h => (by have hv : u.ownBlock = some g := Classical.byContradiction fun hn => h (if_neg hn); exact ⟨hv, hl8 g hv⟩))
       have z198 := x194.size
       refine bindC_eq ?_
       refine bindC_mem (fun v68 hv68 => ?_)
       obtain ⟨a68, rfl, ho68⟩ := hv68
       refine bindC_nil ?_
       exact OpC_app (by decide) encRc_ok el_rc rfl rfl (hown8.blk (fun g hg hv => hk197 1 (by decide) (by kernel_rfl) g hg (if_pos hv)) (fun g hg hv => (hc0196 g hg).trans (if_pos hv))) (Own.slA ho68 encRc_ok) rfl (by have h1 := List.length_filter_le (fun o => !goodB X Y o.key && isFst X o) (X.take k); rw [List.length_take] at h1; rw [List.length_singleton, List.length_map]; omega)
      exact OblC_nil
     case fin11 =>
      intro w199 c201 x200 hc0202
      replace x200 := Bel.mono x200 (D' := fun g => (u.ownBlock = some g ∧ n6 ≤ g ∧ g < n8 ∧ g ≠ b10 ∧ g ≠ b11)) (fun g hg h => (by have hv : u.ownBlock = some g := Classical.byContradiction fun hn => h (if_neg hn); exact ⟨hv, hl8 g hv⟩))
      have z203 := x200.size
      replace hX := Bel.out hX x200 (fun g h1 h2 => by first | exact h2 | omega)
      replace hXL4 := Bel.out hXL4 x200 (fun g h1 h2 => by first | exact h2 | omega)
      replace hown6 := hown6.keep x200 (fun g hg hv h => by have := hown6.loc g hv; first | omega | exact hne g hv h.1 | (rcases h with h | h <;> first | exact hne g hv h.1 | (have := hlo g hv; omega)))
      refine bindC_eq (bindC_eq (bindC_eq (bindC_eq (bindC_eq (bindC_eq (bindC_eq (bindC_eq (bindC_eq ?_))))))))
      refine bindC_eq (bindC_eq (bindC_eq (bindC_eq (bindC_eq (bindC_eq ?_)))))
      refine bindC_mem (fun v68 hv68 => ?_)
      obtain ⟨a68, rfl, ho68⟩ := hv68
      refine bindC_mem (fun v69 hv69 => ?_)
      refine bindC_nil ?_
      change Own _ _ _ _ _ _ _ at hv69
      replace hv69 := Own.mono hv69 (D' := fun g => (u.ownBlock = some g ∧ n6 ≤ g ∧ g < n8) ∨ n8 ≤ g) (fun g hg h => (Nat.lt_or_ge g n8).elim (fun q => .inl (by have hv : u.ownBlock = some g := (Classical.byContradiction fun hn => by have h2 : (if u.ownBlock = some g then 1 else 0) = 1 := (hc0202 g (by omega)).symm.trans h; rw [if_neg hn] at h2; cases h2); have := hl8 g hv; exact ⟨hv, by omega, q⟩)) .inr)
      refine Rr (o_assignh (v := v69) rfl) ?_
      refine Rg_nil (W_region ?_)
      refine Rr (o_add rfl rfl (by first | omega | (unfold I64; omega))) ?_
      refine Rr (mvI rfl) ?_
      refine Rg_nil ?_
      refine ⟨(k + 1, t, v69), ⟨?_, ?_, ?_, trivial⟩, ?_, ⟨?_, hXL4, ?_⟩, ?_⟩
      ·first | rfl | (go_num) | (exact congrArg _ (by omega))
      ·first | rfl | (go_num) | (exact congrArg _ (by omega))
      ·first | rfl | (go_num) | (exact congrArg _ (by omega))
      ·repeat (first | exact oR _ _ | exact oM | refine oP rfl ?_ | refine oN ?_ | refine oL rfl ?_ | refine oX rfl ?_)
      ·show k + 1 ≤ X.length; omega
      ·refine ⟨?_, ?_, fun g h h2 => ?_⟩
       ·show Own _ _ _ _ _ _ ((X.take (k + 1)).filter _)
        rw [filt_succ (z := coz) (by omega), if_neg (by rw [hg]; simp), List.append_nil]; exact hown6.mono (fun g h1 h2 => by omega)
       ·show Own _ _ _ _ _ _ (((X.take (k + 1)).filter _).map _)
        rw [mapf_succ (z := coz) (by omega), if_pos (by rw [hg, hf]; rfl), ← mkC_at hw1 hye]; exact hv69.mono (fun g h1 h2 => by omega)
       ·rcases hv69.loc g h2 with q | q
        ·exact hne g h q.1
        ·have := hown6.lt g h; have := hl6 g h; omega
      ·show X.length - (k + 1) < X.length - k; omega
    have hf : isFst X (X.getD k coz) = false := fst_iff.trans hc4
    refine W_skip (W_region ?_)
    refine Rr (o_add rfl rfl (by first | omega | (unfold I64; omega))) ?_
    refine Rr (mvI rfl) ?_
    refine Rg_nil ?_
    refine ⟨(k + 1, t, u), ⟨?_, ?_, ?_, trivial⟩, ?_, ⟨?_, hXL4, ?_⟩, ?_⟩
    ·first | rfl | (go_num) | (exact congrArg _ (by omega))
    ·first | rfl | (go_num) | (exact congrArg _ (by omega))
    ·first | rfl | (go_num) | (exact congrArg _ (by omega))
    ·repeat (first | exact oR _ _ | exact oM | refine oP rfl ?_ | refine oN ?_ | refine oL rfl ?_ | refine oX rfl ?_)
    ·show k + 1 ≤ X.length; omega
    ·refine ⟨?_, ?_, hne⟩
     ·show Own _ _ _ _ _ _ ((X.take (k + 1)).filter _)
      rw [filt_succ (z := coz) (by omega), if_neg (by rw [hg]; simp), List.append_nil]; exact hown6.mono (fun g h1 h2 => by omega)
     ·show Own _ _ _ _ _ _ (((X.take (k + 1)).filter _).map _)
      rw [mapf_succ (z := coz) (by omega), if_neg (by rw [hf]; simp), List.append_nil]; exact hown8.mono (fun g h1 h2 => by omega)
    ·show X.length - (k + 1) < X.length - k; omega
 have hk1 : ¬ k < X.length := by have := of_decide_eq_false hc1; omega
 refine W_exit (exAt_hit (W_seq (W_seq (W_region ?_))))
 rw [List.take_of_length_le (by omega)] at hown6 hown8
 rw [cfl_fst hX0] at hown8
 refine Rr (mvS rfl) ?_
 refine Rr (o_llen Tryz.underlying28 rfl) ?_
 refine Rr o_movec ?_
 refine Rg_nil (W_block ?_)
 refine W_for (α := Value × Nat) [(6, 6), (15, 15), (73, 87)] (fun q => [(73, .int .i64 (q.2 : Int)), (6, q.1)]) (fun q w' => (q.2 ≤ Y.length) ∧ Bel False (fun g => n6 ≤ g) w5 w' ∧ (Own encRo 8 92 (fun g => n6 ≤ g) w' q.1 ((X.filter fun o => goodB X Y o.key) ++ (Y.take q.2).filter fun o => (withK X o.key).isEmpty) ∧ Own encRc 22 98 (fun g => n6 ≤ g) w' u (cflO X Y) ∧ ∀ g, q.1.ownBlock = some g → u.ownBlock ≠ some g)) (fun q => Y.length - q.2) (t, 0) ⟨rfl, rfl, trivial⟩ ⟨Nat.zero_le _, Bel.refl _ _, ⟨by simpa using hown6, hown8, hne⟩⟩ ?_
 rintro ⟨t, j⟩ fb206 w205 ⟨hj, hXL204, ⟨hown6, hown8, hne⟩⟩
 dsimp only at *
 have z207 := Bel.size hXL204
 replace hX := Bel.out hX hXL204 (fun g h1 h2 => by first | exact h2 | omega)
 replace hs := hs.keep hXL204 (fun g h1 h2 h3 => by omega)
 replace ht := ht.keep hXL204 (fun g h1 h2 h3 => by omega)
 refine W_seq (W_region ?_)
 refine Rr (o_lss rfl rfl) ?_
 refine Rg_nil (W_seq ?_)
 refine W_cond rfl (fun hc5 => ?_) (fun hc5 => ?_)
 ·have hj1 : j < Y.length := by have := of_decide_eq_true hc5; omega
  refine W_skip (W_seq (W_block (W_seq (W_region ?_))))
  refine Rr (o_iaR Tryz.underlying28 Tryz.sizeOf92 ht rfl rfl (by first | omega | (unfold I64; omega))) ?_
  refine Rr (o_ldRS Tryz.isAgg92 Tryz.sizeOf92 ht rfl (getE coz (by omega))) ?_
  refine Rg_alst rfl rfl Tryz.zeroValue92 rfl Tryz.sizeOf92 (fun _ => rfl) rfl rfl ?_
  intro b15 w208 x209 hge15 hb15
  replace hown6 := hown6.mono (D' := fun g => n6 ≤ g ∧ g ≠ b15) (fun g h1 h2 => by omega)
  replace hown8 := hown8.mono (D' := fun g => n6 ≤ g ∧ g ≠ b15) (fun g h1 h2 => by omega)
  have hlt15 := hb15.lt
  change Box _ _ _ (encRo _) at hb15
  have z210 := x209.size
  replace hX := hX.ex x209
  replace hXL204 := Bel.ex hXL204 x209
  replace hs := hs.ext x209
  replace hown6 := hown6.ext x209
  replace hown8 := hown8.ext x209
  refine Rg_nil (W_seq (W_region ?_))
  refine Rr (mvS rfl) ?_
  refine Rr (o_loadS Tryz.isAgg92 Tryz.sizeOf92 rfl hb15.at rfl) ?_
  refine Rg_enter rfl (o_call1 Tryz.call33 rfl) (Ok.mono (rkey_ok (Y.getD j coz) _) ?_)
  rintro _ w211 ⟨rfl, x212⟩
  have z213 := x212.size
  replace hX := hX.ex x212
  replace hXL204 := Bel.ex hXL204 x212
  replace hs := hs.ext x212
  replace hown6 := hown6.ext x212
  replace hown8 := hown8.ext x212
  replace hb15 := hb15.ext x212
  refine Rg_enter rfl (o_call2 Tryz.call34 rfl rfl) (Ok.mono (rwith_ok a c _ X (Y.getD j coz).key _ hs (by omega)) ?_)
  rintro v80 w214 ⟨hown80, x215⟩
  have z216 := x215.size
  replace hX := hX.ex x215
  replace hXL204 := Bel.ex hXL204 x215
  replace hown6 := hown6.ext x215
  replace hown8 := hown8.ext x215
  replace hb15 := hb15.ext x215
  replace hown80 := hown80.mono (D' := fun g => n6 ≤ g) (fun g h1 h2 => by omega)
  obtain ⟨a80, c80, hv80, hs80⟩ := hown80.sl encRo_ok
  subst hv80
  refine Rr (o_llen Tryz.underlying28 rfl) ?_
  refine Rr (o_eql rfl rfl) ?_
  refine Rg_nil ?_
  refine W_cond rfl (fun hc6 => ?_) (fun hc6 => ?_)
  ·have he : (withK X (Y.getD j coz).key).isEmpty = true := by
    have h : ((withK X (Y.getD j coz).key).length : Int) = 0 := eq_of_beq hc6
    rw [List.isEmpty_iff]; exact List.eq_nil_of_length_eq_zero (by omega)
   refine W_region ?_
   obtain ⟨n7, hn7⟩ : ∃ n, n = w214.heap.size := ⟨_, rfl⟩
   have hlo : ∀ g, u.ownBlock = some g → g < n7 := fun g h => by have := hown8.lt g h; omega
   replace hown6 := hown6.at (D' := fun g => (t.ownBlock = some g ∧ n6 ≤ g ∧ g < n7) ∨ n7 ≤ g) (fun g hg hv => .inl ⟨hv, by have := hown6.loc g hv; omega, by omega⟩)
   refine Rr (o_moveh (v := t) rfl) ?_
   refine Rr (o_loadS Tryz.isAgg92 Tryz.sizeOf92 rfl hb15.at rfl) ?_
   refine Rg_bs (vs := [.agg _]) ([(Y.getD j coz)]) rfl encRo_ok el_ro rfl rfl ⟨rfl, trivial⟩ rfl rfl rfl rfl ?_
   intro a85 w217 x218 hown85
   have z219 := x218.size
   replace hX := hX.ex x218
   replace hXL204 := Bel.ex hXL204 x218
   replace hown6 := hown6.ext x218
   replace hown8 := hown8.ext x218
   replace hown85 := hown85.mono (D' := fun g => n6 ≤ g) (fun g h1 h2 => by omega)
   refine Rg_app rfl encRo_ok el_ro rfl rfl hown6 (hown85.slA encRo_ok) rfl (by have h1 := List.length_filter_le (fun o : COp => goodB X Y o.key) X; have h2 := List.length_filter_le (fun o : COp => (withK X o.key).isEmpty) (Y.take j); rw [List.length_take] at h2; rw [List.length_append, List.length_singleton]; omega) (fun g h => .inr (by omega)) ?_
   intro v86 w220 x221 hown6
   have z222 := x221.size
   replace hX := Bel.out hX x221 (fun g h1 h2 => by first | exact h2 | omega)
   replace hXL204 := Bel.out hXL204 x221 (fun g h1 h2 => by first | exact h2 | omega)
   replace hown8 := hown8.keep x221 (fun g hg hv h => by have := hown8.loc g hv; first | omega | (rcases h with h | h <;> first | exact hne g h.1 hv | (have := hlo g hv; omega)))
   refine Rr (o_assignh (v := v86) rfl) ?_
   refine Rg_nil (W_region ?_)
   refine Rr (o_add rfl rfl (by first | omega | (unfold I64; omega))) ?_
   refine Rr (mvI rfl) ?_
   refine Rg_nil ?_
   refine ⟨(v86, j + 1), ⟨?_, ?_, trivial⟩, ?_, ⟨?_, hXL204, ?_⟩, ?_⟩
   ·first | rfl | (go_num) | (exact congrArg _ (by omega))
   ·first | rfl | (go_num) | (exact congrArg _ (by omega))
   ·repeat (first | exact oR _ _ | exact oM | refine oP rfl ?_ | refine oN ?_ | refine oL rfl ?_ | refine oX rfl ?_)
   ·show j + 1 ≤ Y.length; omega
   ·refine ⟨?_, hown8.mono (fun g h1 h2 => by omega), fun g h => ?_⟩
    ·show Own _ _ _ _ _ _ (_ ++ (Y.take (j + 1)).filter _)
     rw [filt_succ (z := coz) (by omega), if_pos he, ← List.append_assoc]; exact hown6.mono (fun g h1 h2 => by omega)
    ·rcases hown6.loc g h with q | q
     ·exact hne g q.1
     ·exact fun h2 => by have := hlo g h2; omega
   ·show Y.length - (j + 1) < Y.length - j; omega
  have he : (withK X (Y.getD j coz).key).isEmpty = false := by
   have h : ¬ ((withK X (Y.getD j coz).key).length : Int) = 0 := ne_of_beq_false hc6
   rw [List.isEmpty_eq_false_iff]; exact fun e => h (by rw [e]; rfl)
  refine W_skip (W_region ?_)
  refine Rr (o_add rfl rfl (by first | omega | (unfold I64; omega))) ?_
  refine Rr (mvI rfl) ?_
  refine Rg_nil ?_
  refine ⟨(t, j + 1), ⟨?_, ?_, trivial⟩, ?_, ⟨?_, hXL204, ?_⟩, ?_⟩
  ·first | rfl | (go_num) | (exact congrArg _ (by omega))
  ·first | rfl | (go_num) | (exact congrArg _ (by omega))
  ·repeat (first | exact oR _ _ | exact oM | refine oP rfl ?_ | refine oN ?_ | refine oL rfl ?_ | refine oX rfl ?_)
  ·show j + 1 ≤ Y.length; omega
  ·refine ⟨?_, hown8.mono (fun g h1 h2 => by omega), hne⟩
   show Own _ _ _ _ _ _ (_ ++ (Y.take (j + 1)).filter _)
   rw [filt_succ (z := coz) (by omega), if_neg (by rw [he]; simp), List.append_nil]; exact hown6.mono (fun g h1 h2 => by omega)
  ·show Y.length - (j + 1) < Y.length - j; omega
 have hj1 : ¬ j < Y.length := by have := of_decide_eq_false hc5; omega
 refine W_exit (exAt_hit (W_seq (W_region ?_)))
 obtain ⟨n9, hn9⟩ : ∃ n, n = w205.heap.size := ⟨_, rfl⟩
 rw [List.take_of_length_le (by omega)] at hown6
 have hlw90 : ∀ g, u.ownBlock = some g → g < n9 := fun g h => by have := hown8.lt g h; omega
 refine Rr (o_moveh (v := t) rfl) ?_
 refine Rg_enter rfl (o_call1 Tryz.call32 rfl) (Ok.mono (rof_ok _ _ (bothO X Y) (hown6.trd encRo_ok) (by have := both_len X Y; omega) (fun x hx => (both_vo hX0 hY0 x hx).ok)) ?_)
 rintro _ w223 ⟨⟨u90, rfl, hown90⟩, x224⟩
 have z225 := x224.size
 replace hX := hX.ex x224
 replace hown8 := hown8.ext x224
 refine Rr (o_moveh (v := .tuple _) rfl) ?_
 refine Rr (o_extract rfl rfl) ?_
 refine Rr (o_extract rfl rfl) ?_
 refine Rr (o_assignh (v := u90) rfl) ?_
 refine Rr (asI rfl) ?_
 refine Rg_nil (W_seq (W_region ?_))
 refine Rr (o_moveh (v := u90) rfl) ?_
 refine Rr (o_moveh (v := u) rfl) ?_
 refine Rr (o_assignh (v := u90) rfl) ?_
 refine Rr (o_assignh (v := u) rfl) ?_
 refine Rg_nil (W_ret ?_)
 refine ⟨_, res_tmp2 rfl rfl rfl, ?_⟩
 have e0 := of_good (both_vo hX0 hY0) (both_cf hX0 hY0)
 rw [e0] at hown90
 exact ⟨⟨u90, u, rfl, hown90.mono (fun g h1 h2 => ⟨by have := h2.1; omega, by omega⟩), hown8.mono (fun g h1 h2 => ⟨by omega, h1⟩), fun g h h2 => by have h3 := (hown90.loc g h).1; have h4 := hlw90 g h2; omega⟩, hX⟩

end Go.Proofs.YtecjjgljkepajaaGreatDoor
