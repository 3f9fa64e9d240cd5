/- Walks: what functions return. -/
import Derived.Test.YtecjjgljkepajaaGreatDoorWmrg
import Derived.Test.YtecjjgljkepajaaGreatDoorSortK
set_option linter.unusedVariables false
set_option linter.unusedSimpArgs false
set_option linter.unnecessarySimpa false
namespace Go.Proofs.YtecjjgljkepajaaGreatDoor
open Go Go.Lx Go.RowKit
set_option maxRecDepth 100000

theorem mlast_ok (a : Option Addr) (c : Nat) (G : Nat → Prop) (X : List COp) (w : World) (hs : Sl encCo 8 G w a c X) (hne : X ≠ []) : Ok Tryz.prog 31 #[.slice a X.length c] w fun v w' => v = .agg (encCo (lastO X)).toArray ∧ Ext False w w' := by
 have hlen := hs.len; have hpos := List.length_pos_iff.2 hne
 replace hs := hs.mono (F' := fun g => g < w.heap.size) (fun g h1 h2 => h1)
 refine Ok_of_W 9 Tryz.func31 rfl rfl rfl ?_
 have hX : Ext False w w := Bel.refl _ _
 refine W_seq (W_region ?_)
 refine Rg_newB rfl (o_alloc Tryz.zeroValue59) ?_
 intro b2 w1 x2 hge2 hb2
 have hlt2 := hb2.lt
 change Box _ _ _ ([.bool _, .int _ _, .int _ _, .int _ _, .int _ _, str _, str _, .bool _]) at hb2
 have z3 := x2.size
 replace hX := hX.ex x2
 replace hs := hs.ext x2
 refine Rg_nil (W_seq (W_region ?_))
 refine Rr (mvS rfl) ?_
 refine Rr (mvS rfl) ?_
 refine Rr (o_llen Tryz.underlying25 rfl) ?_
 refine Rr (o_subN (p := X.length) (b := 1) rfl rfl (by omega) (by omega)) ?_
 refine Rr (o_iaR Tryz.underlying25 Tryz.sizeOf59 hs rfl rfl (by first | omega | (unfold I64; omega))) ?_
 refine Rr (o_ldRS Tryz.isAgg59 Tryz.sizeOf59 hs rfl (getE coz (show X.length - 1 < X.length by omega))) ?_
 refine Rg_storeW (v := .agg _) rfl Tryz.sizeOf59 rfl rfl hb2 rfl rfl rfl ?_
 intro w4 c5 hb2
 change Box _ _ _ (encCo _) at hb2
 have z6 := Bel.size c5
 replace hX := Bel.out hX c5 (fun g h1 h2 => by first | exact h2 | omega)
 refine Rg_nil (W_ret ?_)
 refine ⟨_, res_1 (v := .agg _) rfl (rv_cellS Tryz.isAgg59 Tryz.sizeOf59 rfl hb2.at rfl), ?_⟩
 rw [← lastO_at hne]; exact ⟨rfl, hX⟩

set_option maxHeartbeats 4000000 in
theorem msplit_ok (a b : Option Addr) (c d : Nat) (G H : Nat → Prop) (X Y : List COp) (w : World) (hs : Sl encCo 8 G w a c X) (ht : Sl encCo 8 H w b d Y) (hX0 : VS X) (hY0 : VS Y) (hn : X.length ≤ 100) (hm : Y.length ≤ 100) : Ok Tryz.prog 29 #[.agg #[.slice a X.length c], .agg #[.slice b Y.length d]] w fun v w' => (∃ u a' c', v = .tuple #[u, .slice a' (badK X Y).length c'] ∧ Own encCo 8 59 (fun g => Fsh w w' g ∧ u.ownBlock = some g) w' u (bothO X Y) ∧ Sl encCk 6 (fun g => Fsh w w' g ∧ u.ownBlock ≠ some g) w' a' c' (badK X Y)) ∧ Ext False w w' := by
 have hlen := hs.len; have hlen2 := ht.len
 replace hs := hs.mono (F' := fun g => g < w.heap.size) (fun g h1 h2 => h1)
 replace ht := ht.mono (F' := fun g => g < w.heap.size) (fun g h1 h2 => h1)
 refine Ok_of_W 80 Tryz.func29 rfl rfl rfl ?_
 have hX : Ext False w w := Bel.refl _ _
 refine W_seq (W_region ?_)
 refine Rg_newB rfl (o_box (v := .agg _) rfl) ?_
 intro b2 w1 x2 hge2 hb2
 have hlt2 := hb2.lt
 change Box _ _ _ (wsS _ _ _) at hb2
 have z3 := x2.size
 replace hX := hX.ex x2
 replace hs := hs.ext x2
 replace ht := ht.ext x2
 refine Rg_newB rfl (o_box (v := .agg _) rfl) ?_
 intro b3 w4 x5 hge3 hb3
 have hlt3 := hb3.lt
 change Box _ _ _ (wsS _ _ _) at hb3
 have z6 := x5.size
 replace hX := hX.ex x5
 replace hs := hs.ext x5
 replace ht := ht.ext x5
 replace hb2 := hb2.ext x5
 refine Rr o_assignc ?_
 refine Rr o_assignc ?_
 refine Rg_nil (W_seq ?_)
 obtain ⟨n4, hn4⟩ : ∃ n, n = w4.heap.size := ⟨_, rfl⟩
 apply W_drawC (β := False) (fun _ => 0) [peqC _, (postW (KmIs 59 n4 X)), peqC _, (postW (KmIs 59 n4 Y)), (postW (KmIs 59 n4 X))] [0, 0, 0, 0, 0] 5 mixed (by kernel_rfl) (by kernel_rfl) rfl ⟨peqC_stable _ _, (postW_stable (KmIs.keepS _ _ _)), peqC_stable _ _, (postW_stable (KmIs.keepS _ _ _)), (postW_stable (KmIs.keepS _ _ _)), trivial⟩ ?ob1 ?fin1
 case ob1 =>
  refine OblC_cons (fun w7 c9 x8 hc010 hk11 => ?_) ?_
  ·replace x8 := RelG.ext0 x8
   have z12 := x8.size
   have hb2 := hb2.ext x8
   refine bindC_nil ?_
   exact OpC_v rfl (o_loadS Tryz.isAgg27 Tryz.sizeOf27 rfl hb2.at rfl)
  refine OblC_cons (fun w13 c15 x14 hc016 hk17 => ?_) ?_
  ·replace x14 := RelG.ext0 x14
   have z18 := x14.size
   have hs := hs.ext x14
   refine bindC_eq (bindC_nil ?_)
   exact OpC_W (S := KmIs 59 n4 X) rfl (o_call1 Tryz.call30 rfl) ((bykey_ok a c _ X _ hs (fun x hx => hX0.v x hx) (by omega)).mono (fun v w2 ⟨⟨b, h1, h2⟩, x⟩ => ⟨⟨fun g hg => by have := hg.1; omega, b, h1, h2⟩, x⟩))
  refine OblC_cons (fun w19 c21 x20 hc022 hk23 => ?_) ?_
  ·replace x20 := RelG.ext0 x20
   have z24 := x20.size
   have hb3 := hb3.ext x20
   refine bindC_nil ?_
   exact OpC_v rfl (o_loadS Tryz.isAgg27 Tryz.sizeOf27 rfl hb3.at rfl)
  refine OblC_cons (fun w25 c27 x26 hc028 hk29 => ?_) ?_
  ·replace x26 := RelG.ext0 x26
   have z30 := x26.size
   have ht := ht.ext x26
   refine bindC_eq ?_
   refine bindC_mem (fun v19 hv19 => ?_)
   obtain ⟨F19, hF19, hn19, mp19, rfl, hkm19⟩ := hv19
   refine bindC_nil ?_
   exact OpC_W (S := KmIs 59 n4 Y) rfl (o_call1 Tryz.call30 rfl) ((bykey_ok b d _ Y _ ht (fun x hx => hY0.v x hx) (by omega)).mono (fun v w2 ⟨⟨b, h1, h2⟩, x⟩ => ⟨⟨fun g hg => by have := hg.1; omega, b, h1, h2⟩, x⟩))
  refine OblC_cons (fun w31 c33 x32 hc034 hk35 => ?_) ?_
  ·replace x32 := RelG.ext0 x32
   have z36 := x32.size
   refine bindC_mem (fun v19 hv19 => ?_)
   obtain ⟨F19, hF19, hn19, mp19, rfl, hkm19⟩ := hv19
   refine bindC_mem (fun v21 hv21 => ?_)
   refine bindC_eq ?_
   refine bindC_mem (fun v19 hv19 => ?_)
   obtain ⟨F19, hF19, hn19, mp19, rfl, hkm19⟩ := hv19
   refine bindC_nil ?_
   exact OpC_vp rfl (o_assignh rfl) ⟨F19, hF19, hn19, mp19, rfl, hkm19⟩
  exact OblC_nil
 case fin1 =>
  intro w37 c39 x38 hc040
  replace x38 := RelG.ext0 x38
  have z41 := x38.size
  replace hX := hX.ex x38
  replace hs := hs.ext x38
  replace ht := ht.ext x38
  replace hb2 := hb2.ext x38
  replace hb3 := hb3.ext x38
  refine bindC_eq ?_
  refine bindC_mem (fun v19 hv19 => ?_)
  obtain ⟨F19, hF19, hn19, mp19, rfl, hkm19⟩ := hv19
  refine bindC_eq ?_
  refine bindC_mem (fun v21 hv21 => ?_)
  refine bindC_mem (fun v6 hv6 => ?_)
  refine bindC_nil ?_
  obtain ⟨F21, hF21, hn21, mp21, rfl, hkm21⟩ := hv21
  replace hkm21 := hkm21.mono (F' := fun g => n4 ≤ g) (fun g _ h => hn21 g h)
  obtain ⟨F6, hF6, hn6, mp6, rfl, hkm6⟩ := hv6
  replace hkm6 := hkm6.mono (F' := fun g => n4 ≤ g) (fun g _ h => hn6 g h)
  refine Rr (o_assignh (v := .map _) rfl) ?_
  refine Rg_nil (W_seq (W_region ?_))
  refine Rr o_assignc ?_
  refine Rg_nil (W_seq (W_region ?_))
  refine Rr o_assignc ?_
  refine Rg_nil (W_seq (W_seq (W_region ?_)))
  obtain ⟨n5, hn5⟩ : ∃ n, n = w37.heap.size := ⟨_, rfl⟩
  replace hkm6 := hkm6.mono (F' := fun g => n4 ≤ g ∧ g < n5) (fun g h1 h2 => ⟨h2, by omega⟩)
  replace hkm21 := hkm21.mono (F' := fun g => n4 ≤ g ∧ g < n5) (fun g h1 h2 => ⟨h2, by omega⟩)
  refine Rr (o_loadS Tryz.isAgg27 Tryz.sizeOf27 rfl hb2.at rfl) ?_
  refine Rg_enter rfl (o_call1 Tryz.call39 rfl) (Ok.mono (ckeys_ok _ _ _ X _ hs (by omega)) ?_)
  rintro v23 w42 ⟨hown23, x43⟩
  have z44 := x43.size
  replace hX := hX.ex x43
  replace ht := ht.ext x43
  replace hb3 := hb3.ext x43
  replace hkm21 := hkm21.ext x43
  replace hkm6 := hkm6.ext x43
  obtain ⟨a23, c23, hv23, hs23⟩ := hown23.sl encCk_ok
  subst hv23
  obtain ⟨n6, hn6⟩ : ∃ n, n = w42.heap.size := ⟨_, rfl⟩
  have hkl := keysO_len X; have hkl2 := keysO_len Y
  replace hs23 := hs23.mono (F' := fun g => n5 ≤ g ∧ g < n6) (fun g h1 h2 => by have := h2.1; omega)
  refine Rr (o_llen Tryz.underlying83 rfl) ?_
  refine Rr o_movec ?_
  refine Rg_nil (W_block ?_)
  refine W_for (α := Nat × Value × Value) [(8, 9), (11, 13), (25, 54)] (fun q => [(25, .int .i64 (q.1 : Int)), (8, q.2.1), (9, q.2.2)]) (fun q w' => (q.1 ≤ (keysO X).length) ∧ Bel False (fun g => n6 ≤ g) w42 w' ∧ (Own encCo 8 59 (fun g => n6 ≤ g) w' q.2.1 ((((keysO X).take q.1).filter (goodB X Y)).flatMap (withK X)) ∧ Own encCk 6 57 (fun g => n6 ≤ g) w' q.2.2 (((keysO X).take q.1).filter fun κ => !goodB X Y κ) ∧ ∀ g, q.2.1.ownBlock = some g → q.2.2.ownBlock ≠ some g)) (fun q => (keysO X).length - q.1) (0, .slice none 0 0, .slice none 0 0) ⟨rfl, rfl, rfl, trivial⟩ ⟨Nat.zero_le _, Bel.refl _ _, ⟨Own.nil _ _, Own.nil _ _, fun g h => by simp [Value.ownBlock] at h⟩⟩ ?_
  rintro ⟨k, t, u⟩ fb47 w46 ⟨hk, hXL45, ⟨hown8, hown9, hne⟩⟩
  dsimp only at *
  have z48 := Bel.size hXL45
  replace hX := Bel.out hX hXL45 (fun g h1 h2 => by first | exact h2 | omega)
  replace ht := ht.keep hXL45 (fun g h1 h2 h3 => by omega)
  replace hb3 := hb3.keep hXL45 (fun h => by omega)
  replace hkm21 := hkm21.keep hXL45 (fun g h1 h2 h3 => by omega)
  replace hkm6 := hkm6.keep hXL45 (fun g h1 h2 h3 => by omega)
  replace hs23 := hs23.keep hXL45 (fun g h1 h2 h3 => by omega)
  refine W_seq (W_region ?_)
  refine Rr (o_lss rfl rfl) ?_
  refine Rg_nil (W_seq ?_)
  refine W_cond rfl (fun hc1 => ?_) (fun hc1 => ?_)
  ·have hk1 : k < (keysO X).length := by have := of_decide_eq_true hc1; omega
   refine W_skip (W_seq (W_block (W_seq (W_region ?_))))
   have hkr := keys_kr hX0 ((keysO X).getD k okz) (gm (z := okz) (show k < (keysO X).length by omega))
   refine Rr (o_iaR Tryz.underlying83 Tryz.sizeOf57 hs23 rfl rfl (by first | omega | (unfold I64; omega))) ?_
   refine Rr (o_ldRS Tryz.isAgg57 Tryz.sizeOf57 hs23 rfl (getE okz (by omega))) ?_
   refine Rg_alst rfl rfl Tryz.zeroValue57 rfl Tryz.sizeOf57 (fun _ => rfl) rfl rfl ?_
   intro b11 w49 x50 hge11 hb11
   replace hown8 := hown8.mono (D' := fun g => n6 ≤ g ∧ g ≠ b11) (fun g h1 h2 => by omega)
   replace hown9 := hown9.mono (D' := fun g => n6 ≤ g ∧ g ≠ b11) (fun g h1 h2 => by omega)
   have hlt11 := hb11.lt
   change Box _ _ _ (encCk _) at hb11
   have z51 := x50.size
   replace hX := hX.ex x50
   replace hXL45 := Bel.ex hXL45 x50
   replace hkm21 := hkm21.ext x50
   replace hkm6 := hkm6.ext x50
   replace hown8 := hown8.ext x50
   replace hown9 := hown9.ext x50
   refine Rg_nil (W_seq (W_region ?_))
   refine Rr (o_moveh (v := .map _) rfl) ?_
   refine Rr (o_loadS Tryz.isAgg57 Tryz.sizeOf57 rfl hb11.at rfl) ?_
   obtain ⟨a32, c32, hlk32, hs32⟩ := hkm21.read mk_law Tryz.underlying86 Tryz.zeroValue25 hkr
   refine Rr (o_klook2 hlk32 rfl rfl) ?_
   refine Rr (o_moveh (v := .tuple _) rfl) ?_
   refine Rr (o_extract rfl rfl) ?_
   refine Rr (o_extract rfl rfl) ?_
   refine Rr (asS rfl) ?_
   refine Rr (asB rfl) ?_
   refine Rg_nil (W_block (W_seq (W_region ?_)))
   refine (Decidable.em (withK Y ((keysO X).getD k okz) = [])).elim (fun hye => ?_) (fun hye => ?_)
   ·refine Rr (mvB rfl) ?_
    refine Rr (o_not rfl) ?_
    refine Rr (mvB rfl) ?_
    refine Rg_off 2 42 rfl rfl (congrArg Value.bool (by rw [isE_yes hye] <;> rfl)) rfl rfl ?_
    refine Rg_off 2 42 rfl rfl (congrArg Value.bool (by rw [isE_yes hye] <;> rfl)) rfl rfl ?_
    refine Rg_off 2 42 rfl rfl (congrArg Value.bool (by rw [isE_yes hye] <;> rfl)) rfl rfl ?_
    obtain ⟨a46, c46, hlk46, hs46⟩ := hkm6.read mk_law Tryz.underlying86 Tryz.zeroValue25 hkr
    refine Rg_off 2 42 rfl rfl (congrArg Value.bool (by rw [isE_yes hye] <;> rfl)) rfl rfl ?_
    refine Rg_off 2 42 rfl rfl (congrArg Value.bool (by rw [isE_yes hye] <;> rfl)) rfl rfl ?_
    refine Rr (o_pickT (v := .bool _) (congrArg Value.bool (by rw [isE_yes hye] <;> rfl)) rfl) ?_
    refine Rr (asB rfl) ?_
    refine Rg_nil ?_
    refine W_cond_true rfl ?_
    refine W_region ?_
    obtain ⟨n7, hn7⟩ : ∃ n, n = w49.heap.size := ⟨_, rfl⟩
    have hl9 : ∀ g, u.ownBlock = some g → g < n7 := fun g h => by have := hown9.lt g h; omega
    replace hown8 := hown8.at (D' := fun g => (t.ownBlock = some g ∧ n6 ≤ g ∧ g < n7) ∨ n7 ≤ g) (fun g hg hv => .inl ⟨hv, by have := hown8.loc g hv; omega, by omega⟩)
    refine Rr (o_moveh (v := t) rfl) ?_
    refine Rr (o_moveh (v := .map _) rfl) ?_
    refine Rr (o_loadS Tryz.isAgg57 Tryz.sizeOf57 rfl hb11.at rfl) ?_
    obtain ⟨a52, c52, hlk52, hs52⟩ := hkm6.read mk_law Tryz.underlying86 Tryz.zeroValue25 hkr
    refine Rr (o_klook hlk52 rfl rfl) ?_
    refine Rg_app rfl encCo_ok el_co rfl rfl hown8 hs52 rfl (by have h1 := flat_le hX0 (goodB X Y) k; have h2 : (withK X ((keysO X).getD k okz)).length ≤ X.length := List.length_filter_le _ _; omega) (fun g h => .inr (by omega)) ?_
    intro v53 w52 x53 hown8
    have z54 := x53.size
    replace hX := Bel.out hX x53 (fun g h1 h2 => by first | exact h2 | omega)
    replace hXL45 := Bel.out hXL45 x53 (fun g h1 h2 => by first | exact h2 | omega)
    replace hown9 := hown9.keep x53 (fun g hg hv h => by have := hown9.loc g hv; first | omega | (rcases h with h | h <;> first | exact hne g h.1 hv | (have := hl9 g hv; omega)))
    refine Rr (o_assignh (v := v53) rfl) ?_
    refine Rg_nil (W_region ?_)
    refine Rr (o_add rfl rfl (by first | omega | (unfold I64; omega))) ?_
    refine Rr (mvI rfl) ?_
    refine Rg_nil ?_
    refine ⟨(k + 1, v53, u), ⟨?_, ?_, ?_, trivial⟩, ?_, ⟨?_, hXL45, ?_⟩, ?_⟩
    ·first | rfl | (go_num) | (exact congrArg _ (by omega))
    ·first | rfl | (go_num) | (exact congrArg _ (by omega))
    ·first | rfl | (go_num) | (exact congrArg _ (by omega))
    ·repeat (first | exact oR _ _ | exact oM | refine oP rfl ?_ | refine oN ?_ | refine oL rfl ?_ | refine oX rfl ?_)
    ·show k + 1 ≤ (keysO X).length; omega
    ·have hg : goodB X Y ((keysO X).getD k okz) = true := good_a hye
     refine ⟨?_, ?_, fun g h => ?_⟩
     ·show Own _ _ _ _ _ _ ((((keysO X).take (k + 1)).filter _).flatMap _)
      rw [flat_succ (z := okz) (by omega), if_pos hg]; exact hown8.mono (fun g h1 h2 => by omega)
     ·show Own _ _ _ _ _ _ (((keysO X).take (k + 1)).filter _)
      rw [filt_succ (z := okz) (by omega), if_neg (by rw [hg]; simp), List.append_nil]; exact hown9.mono (fun g h1 h2 => by omega)
     ·rcases hown8.loc g h with q | q
      ·exact hne g q.1
      ·exact fun h2 => by have := hl9 g h2; omega
    ·show (keysO X).length - (k + 1) < (keysO X).length - k; omega
   refine Rr (mvB rfl) ?_
   refine Rr (o_not rfl) ?_
   refine Rr (mvB rfl) ?_
   refine Rg_on 2 42 rfl (congrArg Value.bool (by rw [isE_no hye] <;> rfl)) ?_
   refine Rr (mvS rfl) ?_
   refine Rg_on 2 42 rfl (congrArg Value.bool (by rw [isE_no hye] <;> rfl)) ?_
   refine Rr (o_moveh (v := .map _) rfl) ?_
   refine Rg_on 2 42 rfl (congrArg Value.bool (by rw [isE_no hye] <;> rfl)) ?_
   refine Rr (o_loadS Tryz.isAgg57 Tryz.sizeOf57 rfl hb11.at rfl) ?_
   obtain ⟨a46, c46, hlk46, hs46⟩ := hkm6.read mk_law Tryz.underlying86 Tryz.zeroValue25 hkr
   refine Rg_on 2 42 rfl (congrArg Value.bool (by rw [isE_no hye] <;> rfl)) ?_
   refine Rr (o_klook hlk46 rfl rfl) ?_
   refine Rg_on 2 42 rfl (congrArg Value.bool (by rw [isE_no hye] <;> rfl)) ?_
   refine Rg_enter rfl (o_call2 Tryz.call24 rfl rfl) (Ok.mono (coeq_ok _ _ _ _ _ _ _ _ _ hs32 hs46) ?_)
   rintro _ w55 ⟨rfl, x56⟩
   have z57 := x56.size
   replace hX := hX.ex x56
   replace hXL45 := Bel.ex hXL45 x56
   replace hkm6 := hkm6.ext x56
   replace hown8 := hown8.ext x56
   replace hown9 := hown9.ext x56
   replace hb11 := hb11.ext x56
   refine Rr (o_pickF (v := .bool _) (congrArg Value.bool (by rw [isE_no hye] <;> rfl)) rfl) ?_
   refine Rr (asB rfl) ?_
   refine Rg_nil ?_
   refine W_cond rfl (fun hc3 => ?_) (fun hc3 => ?_)
   ·have hg := good_b (A := X) (B := Y) hc3
    refine W_region ?_
    obtain ⟨n7, hn7⟩ : ∃ n, n = w55.heap.size := ⟨_, rfl⟩
    have hl9 : ∀ g, u.ownBlock = some g → g < n7 := fun g h => by have := hown9.lt g h; omega
    replace hown8 := hown8.at (D' := fun g => (t.ownBlock = some g ∧ n6 ≤ g ∧ g < n7) ∨ n7 ≤ g) (fun g hg hv => .inl ⟨hv, by have := hown8.loc g hv; omega, by omega⟩)
    refine Rr (o_moveh (v := t) rfl) ?_
    refine Rr (o_moveh (v := .map _) rfl) ?_
    refine Rr (o_loadS Tryz.isAgg57 Tryz.sizeOf57 rfl hb11.at rfl) ?_
    obtain ⟨a52, c52, hlk52, hs52⟩ := hkm6.read mk_law Tryz.underlying86 Tryz.zeroValue25 hkr
    refine Rr (o_klook hlk52 rfl rfl) ?_
    refine Rg_app rfl encCo_ok el_co rfl rfl hown8 hs52 rfl (by have h1 := flat_le hX0 (goodB X Y) k; have h2 : (withK X ((keysO X).getD k okz)).length ≤ X.length := List.length_filter_le _ _; omega) (fun g h => .inr (by omega)) ?_
    intro v53 w58 x59 hown8
    have z60 := x59.size
    replace hX := Bel.out hX x59 (fun g h1 h2 => by first | exact h2 | omega)
    replace hXL45 := Bel.out hXL45 x59 (fun g h1 h2 => by first | exact h2 | omega)
    replace hown9 := hown9.keep x59 (fun g hg hv h => by have := hown9.loc g hv; first | omega | (rcases h with h | h <;> first | exact hne g h.1 hv | (have := hl9 g hv; omega)))
    refine Rr (o_assignh (v := v53) rfl) ?_
    refine Rg_nil (W_region ?_)
    refine Rr (o_add rfl rfl (by first | omega | (unfold I64; omega))) ?_
    refine Rr (mvI rfl) ?_
    refine Rg_nil ?_
    refine ⟨(k + 1, v53, u), ⟨?_, ?_, ?_, trivial⟩, ?_, ⟨?_, hXL45, ?_⟩, ?_⟩
    ·first | rfl | (go_num) | (exact congrArg _ (by omega))
    ·first | rfl | (go_num) | (exact congrArg _ (by omega))
    ·first | rfl | (go_num) | (exact congrArg _ (by omega))
    ·repeat (first | exact oR _ _ | exact oM | refine oP rfl ?_ | refine oN ?_ | refine oL rfl ?_ | refine oX rfl ?_)
    ·show k + 1 ≤ (keysO X).length; omega
    ·refine ⟨?_, ?_, fun g h => ?_⟩
     ·show Own _ _ _ _ _ _ ((((keysO X).take (k + 1)).filter _).flatMap _)
      rw [flat_succ (z := okz) (by omega), if_pos hg]; exact hown8.mono (fun g h1 h2 => by omega)
     ·show Own _ _ _ _ _ _ (((keysO X).take (k + 1)).filter _)
      rw [filt_succ (z := okz) (by omega), if_neg (by rw [hg]; simp), List.append_nil]; exact hown9.mono (fun g h1 h2 => by omega)
     ·rcases hown8.loc g h with q | q
      ·exact hne g q.1
      ·exact fun h2 => by have := hl9 g h2; omega
    ·show (keysO X).length - (k + 1) < (keysO X).length - k; omega
   have hg := good_c (A := X) (B := Y) hye hc3
   refine W_region ?_
   obtain ⟨n7, hn7⟩ : ∃ n, n = w55.heap.size := ⟨_, rfl⟩
   have hl8 : ∀ g, t.ownBlock = some g → g < n7 := fun g h => by have := hown8.lt g h; omega
   replace hown9 := hown9.at (D' := fun g => (u.ownBlock = some g ∧ n6 ≤ g ∧ g < n7) ∨ n7 ≤ g) (fun g hg hv => .inl ⟨hv, by have := hown9.loc g hv; omega, by omega⟩)
   refine Rr (o_moveh (v := u) rfl) ?_
   refine Rr (o_loadS Tryz.isAgg57 Tryz.sizeOf57 rfl hb11.at rfl) ?_
   refine Rg_bs (vs := [.agg _]) ([((keysO X).getD k okz)]) rfl encCk_ok el_ck rfl rfl ⟨rfl, trivial⟩ rfl rfl rfl rfl ?_
   intro a37 w61 x62 hown37
   have z63 := x62.size
   replace hX := hX.ex x62
   replace hXL45 := Bel.ex hXL45 x62
   replace hown8 := hown8.ext x62
   replace hown9 := hown9.ext x62
   replace hown37 := hown37.mono (D' := fun g => n6 ≤ g) (fun g h1 h2 => by omega)
   refine Rg_app rfl encCk_ok el_ck rfl rfl hown9 (hown37.slA encCk_ok) rfl (by have h1 := List.length_filter_le (fun κ => !goodB X Y κ) ((keysO X).take k); rw [List.length_take] at h1; rw [List.length_singleton]; omega) (fun g h => .inr (by omega)) ?_
   intro v38 w64 x65 hown9
   have z66 := x65.size
   replace hX := Bel.out hX x65 (fun g h1 h2 => by first | exact h2 | omega)
   replace hXL45 := Bel.out hXL45 x65 (fun g h1 h2 => by first | exact h2 | omega)
   replace hown8 := hown8.keep x65 (fun g hg hv h => by have := hown8.loc g hv; first | omega | (rcases h with h | h <;> first | exact hne g hv h.1 | (have := hl8 g hv; omega)))
   refine Rr (o_assignh (v := v38) rfl) ?_
   refine Rg_nil (W_region ?_)
   refine Rr (o_add rfl rfl (by first | omega | (unfold I64; omega))) ?_
   refine Rr (mvI rfl) ?_
   refine Rg_nil ?_
   refine ⟨(k + 1, t, v38), ⟨?_, ?_, ?_, trivial⟩, ?_, ⟨?_, hXL45, ?_⟩, ?_⟩
   ·first | rfl | (go_num) | (exact congrArg _ (by omega))
   ·first | rfl | (go_num) | (exact congrArg _ (by omega))
   ·first | rfl | (go_num) | (exact congrArg _ (by omega))
   ·repeat (first | exact oR _ _ | exact oM | refine oP rfl ?_ | refine oN ?_ | refine oL rfl ?_ | refine oX rfl ?_)
   ·show k + 1 ≤ (keysO X).length; omega
   ·refine ⟨?_, ?_, fun g h h2 => ?_⟩
    ·show Own _ _ _ _ _ _ ((((keysO X).take (k + 1)).filter _).flatMap _)
     rw [flat_succ (z := okz) (by omega), if_neg (by rw [hg]; simp), List.append_nil]; exact hown8.mono (fun g h1 h2 => by omega)
    ·show Own _ _ _ _ _ _ (((keysO X).take (k + 1)).filter _)
     rw [filt_succ (z := okz) (by omega), if_pos (by rw [hg]; rfl)]; exact hown9.mono (fun g h1 h2 => by omega)
    ·rcases hown9.loc g h2 with q | q
     ·exact hne g h q.1
     ·have := hl8 g h; omega
   ·show (keysO X).length - (k + 1) < (keysO X).length - k; omega
  have hk1 : ¬ k < (keysO X).length := by have := of_decide_eq_false hc1; omega
  refine W_exit (exAt_hit (W_seq (W_seq (W_region ?_))))
  rw [List.take_of_length_le (by omega)] at hown8 hown9
  rw [flat_keys hX0 (goodB X Y)] at hown8
  change Own _ _ _ _ _ _ (badK X Y) at hown9
  obtain ⟨n8, hn8⟩ : ∃ n, n = w46.heap.size := ⟨_, rfl⟩
  replace hown8 := hown8.mono (D' := fun g => n6 ≤ g ∧ g < n8) (fun g h1 h2 => ⟨by omega, by omega⟩)
  replace hown9 := hown9.mono (D' := fun g => n6 ≤ g ∧ g < n8) (fun g h1 h2 => ⟨by omega, by omega⟩)
  refine Rr (o_loadS Tryz.isAgg27 Tryz.sizeOf27 rfl hb3.at rfl) ?_
  refine Rg_enter rfl (o_call1 Tryz.call39 rfl) (Ok.mono (ckeys_ok _ _ _ Y _ ht (by omega)) ?_)
  rintro v56 w67 ⟨hown56, x68⟩
  replace hown8 := hown8.mono (D' := fun g => n6 ≤ g ∧ g < n8 ∧ ¬ (w46.heap.size ≤ g ∧ g < w67.heap.size)) (fun g h1 h2 => by omega)
  replace hown9 := hown9.mono (D' := fun g => n6 ≤ g ∧ g < n8 ∧ ¬ (w46.heap.size ≤ g ∧ g < w67.heap.size)) (fun g h1 h2 => by omega)
  have z69 := x68.size
  replace hX := hX.ex x68
  replace hkm21 := hkm21.ext x68
  replace hkm6 := hkm6.ext x68
  replace hown8 := hown8.ext x68
  replace hown9 := hown9.ext x68
  obtain ⟨a56, c56, hv56, hs56⟩ := hown56.sl encCk_ok
  subst hv56
  obtain ⟨n9, hn9⟩ : ∃ n, n = w67.heap.size := ⟨_, rfl⟩
  replace hs56 := hs56.mono (F' := fun g => n8 ≤ g ∧ g < n9) (fun g h1 h2 => by have := h2.1; omega)
  refine Rr (o_llen Tryz.underlying83 rfl) ?_
  refine Rr o_movec ?_
  refine Rg_nil (W_block ?_)
  refine W_for (α := Value × Nat) [(8, 8), (15, 17), (58, 75)] (fun q => [(58, .int .i64 (q.2 : Int)), (8, q.1)]) (fun q w' => (q.2 ≤ (keysO Y).length) ∧ Bel False (fun g => (n6 ≤ g ∧ g < n8) ∨ n9 ≤ g) w67 w' ∧ (Own encCo 8 59 (fun g => (n6 ≤ g ∧ g < n8) ∨ n9 ≤ g) w' q.1 (X.filter (fun o => goodB X Y o.key) ++ (((keysO Y).take q.2).filter fun κ => (withK X κ).isEmpty).flatMap (withK Y)) ∧ Own encCk 6 57 (fun g => (n6 ≤ g ∧ g < n8) ∨ n9 ≤ g) w' u (badK X Y) ∧ ∀ g, q.1.ownBlock = some g → u.ownBlock ≠ some g)) (fun q => (keysO Y).length - q.2) (t, 0) ⟨rfl, rfl, trivial⟩ ⟨Nat.zero_le _, Bel.refl _ _, ⟨by simpa using hown8.mono (fun g h1 h2 => by omega), hown9.mono (fun g h1 h2 => by omega), hne⟩⟩ ?_
  rintro ⟨t, j⟩ fb72 w71 ⟨hj, hXL70, ⟨hown8, hown9, hne⟩⟩
  dsimp only at *
  have z73 := Bel.size hXL70
  replace hX := Bel.out hX hXL70 (fun g h1 h2 => by first | exact h2 | omega)
  replace hkm21 := hkm21.keep hXL70 (fun g h1 h2 h3 => by omega)
  replace hkm6 := hkm6.keep hXL70 (fun g h1 h2 h3 => by omega)
  replace hs56 := hs56.keep hXL70 (fun g h1 h2 h3 => by omega)
  refine W_seq (W_region ?_)
  refine Rr (o_lss rfl rfl) ?_
  refine Rg_nil (W_seq ?_)
  refine W_cond rfl (fun hc4 => ?_) (fun hc4 => ?_)
  ·have hj1 : j < (keysO Y).length := by have := of_decide_eq_true hc4; omega
   refine W_skip (W_seq (W_block (W_seq (W_region ?_))))
   have hkr := keys_kr hY0 ((keysO Y).getD j okz) (gm (z := okz) (show j < (keysO Y).length by omega))
   refine Rr (o_iaR Tryz.underlying83 Tryz.sizeOf57 hs56 rfl rfl (by first | omega | (unfold I64; omega))) ?_
   refine Rr (o_ldRS Tryz.isAgg57 Tryz.sizeOf57 hs56 rfl (getE okz (by omega))) ?_
   refine Rg_alst rfl rfl Tryz.zeroValue57 rfl Tryz.sizeOf57 (fun _ => rfl) rfl rfl ?_
   intro b15 w74 x75 hge15 hb15
   replace hown8 := hown8.mono (D' := fun g => (n6 ≤ g ∧ g < n8) ∨ n9 ≤ g ∧ g ≠ b15) (fun g h1 h2 => by omega)
   replace hown9 := hown9.mono (D' := fun g => (n6 ≤ g ∧ g < n8) ∨ n9 ≤ g ∧ g ≠ b15) (fun g h1 h2 => by omega)
   have hlt15 := hb15.lt
   change Box _ _ _ (encCk _) at hb15
   have z76 := x75.size
   replace hX := hX.ex x75
   replace hXL70 := Bel.ex hXL70 x75
   replace hkm21 := hkm21.ext x75
   replace hkm6 := hkm6.ext x75
   replace hown8 := hown8.ext x75
   replace hown9 := hown9.ext x75
   refine Rg_nil (W_seq (W_region ?_))
   refine Rr (o_moveh (v := .map _) rfl) ?_
   refine Rr (o_loadS Tryz.isAgg57 Tryz.sizeOf57 rfl hb15.at rfl) ?_
   obtain ⟨a65, c65, hlk65, hs65⟩ := hkm6.read mk_law Tryz.underlying86 Tryz.zeroValue25 hkr
   refine Rr (o_klook2 hlk65 rfl rfl) ?_
   refine Rr (o_moveh (v := .tuple _) rfl) ?_
   refine Rr (o_extract rfl rfl) ?_
   refine Rr (o_extract rfl rfl) ?_
   refine Rr (asS rfl) ?_
   refine Rr (asB rfl) ?_
   refine Rg_nil (W_seq (W_region ?_))
   refine Rr (mvB rfl) ?_
   refine Rr (o_not rfl) ?_
   refine Rg_nil ?_
   refine W_cond rfl (fun hc5 => ?_) (fun hc5 => ?_)
   ·have he2 : (withK X ((keysO Y).getD j okz)).isEmpty = true := by simpa using hc5
    refine W_region ?_
    obtain ⟨n7, hn7⟩ : ∃ n, n = w74.heap.size := ⟨_, rfl⟩
    have hl9 : ∀ g, u.ownBlock = some g → g < n7 := fun g h => by have := hown9.lt g h; omega
    replace hown8 := hown8.at (D' := fun g => (t.ownBlock = some g ∧ ((n6 ≤ g ∧ g < n8) ∨ n9 ≤ g) ∧ g < n7) ∨ n7 ≤ g) (fun g hg hv => .inl ⟨hv, by have := hown8.loc g hv; omega, by omega⟩)
    refine Rr (o_moveh (v := t) rfl) ?_
    refine Rr (o_moveh (v := .map _) rfl) ?_
    refine Rr (o_loadS Tryz.isAgg57 Tryz.sizeOf57 rfl hb15.at rfl) ?_
    obtain ⟨a73, c73, hlk73, hs73⟩ := hkm21.read mk_law Tryz.underlying86 Tryz.zeroValue25 hkr
    refine Rr (o_klook hlk73 rfl rfl) ?_
    refine Rg_app rfl encCo_ok el_co rfl rfl hown8 hs73 rfl (by have h1 := flat_le hY0 (fun κ => (withK X κ).isEmpty) j; have h2 : (withK Y ((keysO Y).getD j okz)).length ≤ Y.length := List.length_filter_le _ _; have h3 : (X.filter (fun o => goodB X Y o.key)).length ≤ X.length := List.length_filter_le _ _; rw [List.length_append]; omega) (fun g h => .inr (by omega)) ?_
    intro v74 w77 x78 hown8
    have z79 := x78.size
    replace hX := Bel.out hX x78 (fun g h1 h2 => by first | exact h2 | omega)
    replace hXL70 := Bel.out hXL70 x78 (fun g h1 h2 => by first | exact h2 | omega)
    replace hown9 := hown9.keep x78 (fun g hg hv h => by have := hown9.loc g hv; first | omega | (rcases h with h | h <;> first | exact hne g h.1 hv | (have := hl9 g hv; omega)))
    refine Rr (o_assignh (v := v74) rfl) ?_
    refine Rg_nil (W_region ?_)
    refine Rr (o_add rfl rfl (by first | omega | (unfold I64; omega))) ?_
    refine Rr (mvI rfl) ?_
    refine Rg_nil ?_
    refine ⟨(v74, j + 1), ⟨?_, ?_, trivial⟩, ?_, ⟨?_, hXL70, ?_⟩, ?_⟩
    ·first | rfl | (go_num) | (exact congrArg _ (by omega))
    ·first | rfl | (go_num) | (exact congrArg _ (by omega))
    ·repeat (first | exact oR _ _ | exact oM | refine oP rfl ?_ | refine oN ?_ | refine oL rfl ?_ | refine oX rfl ?_)
    ·show j + 1 ≤ (keysO Y).length; omega
    ·refine ⟨?_, hown9.mono (fun g h1 h2 => by omega), fun g h => ?_⟩
     ·show Own _ _ _ _ _ _ (X.filter (fun o => goodB X Y o.key) ++ (((keysO Y).take (j + 1)).filter _).flatMap _)
      rw [flat_succ (z := okz) (by omega), if_pos he2, ← List.append_assoc]; exact hown8.mono (fun g h1 h2 => by omega)
     ·rcases hown8.loc g h with q | q
      ·exact hne g q.1
      ·exact fun h2 => by have := hl9 g h2; omega
    ·show (keysO Y).length - (j + 1) < (keysO Y).length - j; omega
   have he2 : (withK X ((keysO Y).getD j okz)).isEmpty = false := by simpa using hc5
   refine W_skip (W_region ?_)
   refine Rr (o_add rfl rfl (by first | omega | (unfold I64; omega))) ?_
   refine Rr (mvI rfl) ?_
   refine Rg_nil ?_
   refine ⟨(t, j + 1), ⟨?_, ?_, trivial⟩, ?_, ⟨?_, hXL70, ?_⟩, ?_⟩
   ·first | rfl | (go_num) | (exact congrArg _ (by omega))
   ·first | rfl | (go_num) | (exact congrArg _ (by omega))
   ·repeat (first | exact oR _ _ | exact oM | refine oP rfl ?_ | refine oN ?_ | refine oL rfl ?_ | refine oX rfl ?_)
   ·show j + 1 ≤ (keysO Y).length; omega
   ·refine ⟨?_, hown9.mono (fun g h1 h2 => by omega), hne⟩
    show Own _ _ _ _ _ _ (X.filter (fun o => goodB X Y o.key) ++ (((keysO Y).take (j + 1)).filter _).flatMap _)
    rw [flat_succ (z := okz) (by omega), if_neg (by rw [he2]; simp), List.append_nil]; exact hown8.mono (fun g h1 h2 => by omega)
   ·show (keysO Y).length - (j + 1) < (keysO Y).length - j; omega
  have hj1 : ¬ j < (keysO Y).length := by have := of_decide_eq_false hc4; omega
  refine W_exit (exAt_hit (W_seq (W_region ?_)))
  obtain ⟨n7, hn7⟩ : ∃ n, n = w71.heap.size := ⟨_, rfl⟩
  have hl8 : ∀ g, t.ownBlock = some g → g < n7 := fun g h => by have := hown8.lt g h; omega
  replace hown9 := hown9.at (D' := fun g => (u.ownBlock = some g ∧ ((n6 ≤ g ∧ g < n8) ∨ n9 ≤ g) ∧ g < n7) ∨ n7 ≤ g) (fun g hg hv => .inl ⟨hv, by have := hown9.loc g hv; omega, by omega⟩)
  refine Rr (o_moveh (v := u) rfl) ?_
  refine Rg_enter rfl (o_call2 Tryz.call59 rfl rfl) (Ok.mono (sortck_ok _ _ (badK X Y) _ hown9 (by have := List.length_filter_le (fun κ => !goodB X Y κ) (keysO X); have := keysO_len X; have e : (badK X Y).length = ((keysO X).filter fun κ => !goodB X Y κ).length := rfl; omega) (fun x hx => ⟨bad_wk hX0 x hx, keys_kr hX0 x (List.mem_filter.1 hx).1⟩) (bad_asc hX0)) ?_)
  rintro _ w80 ⟨rfl, x81, hown9⟩
  have z82 := x81.size
  replace hX := Bel.out hX x81 (fun g h1 h2 => by first | exact h2 | omega)
  replace hown8 := hown8.keep x81 (fun g hg hv h => by have := hown8.loc g hv; first | omega | (rcases h with h | h <;> first | exact hne g hv h.1 | (have := hl8 g hv; omega)))
  refine Rg_nil (W_seq (W_region ?_))
  refine Rr (o_moveh (v := t) rfl) ?_
  refine Rr (o_moveh (v := u) rfl) ?_
  refine Rr (o_assignh (v := t) rfl) ?_
  refine Rr (o_assignh (v := u) rfl) ?_
  refine Rg_nil (W_ret ?_)
  refine ⟨_, res_tmp2 rfl rfl rfl, ?_⟩
  rw [List.take_of_length_le (by omega), flat_keys hY0 (fun κ => (withK X κ).isEmpty)] at hown8
  replace hown9 := hown9.at (D' := fun g => Fsh w w80 g ∧ t.ownBlock ≠ some g) (fun g h1 h2 => ⟨⟨by have := hown9.loc g h2; omega, h1⟩, fun h => hne g h h2⟩)
  obtain ⟨a9, c9, rfl, hs9⟩ := hown9.sl encCk_ok
  exact ⟨⟨t, a9, c9, rfl, hown8.at (fun g h1 h2 => ⟨⟨by have := hown8.loc g h2; omega, h1⟩, h2⟩), hs9⟩, hX⟩

end Go.Proofs.YtecjjgljkepajaaGreatDoor
