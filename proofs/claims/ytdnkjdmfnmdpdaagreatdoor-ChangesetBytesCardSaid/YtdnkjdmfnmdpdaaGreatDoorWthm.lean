/- Walks: what functions return. -/
import Derived.Test.YtdnkjdmfnmdpdaaGreatDoorWthn
import Derived.Test.YtdnkjdmfnmdpdaaGreatDoorSu
import Derived.Test.YtdnkjdmfnmdpdaaGreatDoorSortL
set_option linter.unusedVariables false
set_option linter.unusedSimpArgs false
set_option linter.unnecessarySimpa false
namespace Go.Proofs.YtdnkjdmfnmdpdaaGreatDoor
open Go Go.Lx Go.RowKit Tryz
set_option maxRecDepth 100000
set_option maxHeartbeats 4000000 in
theorem cthens_ok (a b : Option Addr) (c d : Nat) (G H : Nat → Prop) (X Y : List COp) (w : World) (hs : Sl encCo 8 G w a c X) (ht : Sl encCo 8 H w b d Y) (hX0 : VS X) (hY0 : VS Y) (hn : X.length ≤ 10000) (hm : Y.length ≤ 10000) : Ok Tryz.prog 26 #[.agg #[.slice a X.length c], .agg #[.slice b Y.length d]] w fun v w' => (∃ a' c', v = .tuple #[.agg #[.slice a' (thenS X Y).1.length c'], .int .i64 (thenS X Y).2] ∧ Sl encCo 8 (Fsh w w') w' a' c' (thenS X Y).1) ∧ Ext False w w' := by
 have hlen := hs.len; have hlen2 := ht.len
 replace hs := hs.mono (F' := fun g => g < w.heap.size) (fun g h1 h2 => h1)
 replace ht := ht.mono (F' := fun g => g < w.heap.size) (fun g h1 h2 => h1)
 have hXp : ∀ x ∈ X, x.p.ok := fun x hx => (hX0.v x hx).ok
 have hYp : ∀ x ∈ Y, x.p.ok := fun x hx => (hY0.v x hx).ok
 have hkx := keysO_len X; have hky := keysO_len Y
 refine ZQ 44 func26 rfl rfl rfl ?_
 have hX := xRf w
 refine QH (Qc ?_)
 refine Z2 rfl (JB (v := .agg _) rfl) ?_
 intro b2 w1 x2 hge2 hb2
 have hlt2 := hb2.lt
 change Box _ _ _ (wsS _ _ _) at hb2
 have z3 := x2.size
 replace hX := hX.ex x2
 replace hs := hs.ext x2
 replace ht := ht.ext x2
 refine Z2 rfl (JB (v := .agg _) rfl) ?_
 intro b3 w4 x5 hge3 hb3
 have hlt3 := hb3.lt
 change Box _ _ _ (wsS _ _ _) at hb3
 have z6 := x5.size
 replace hX := hX.ex x5
 replace hs := hs.ext x5
 replace ht := ht.ext x5
 replace hb2 := hb2.ext x5
 refine Z2 rfl (JK zeroValue63) ?_
 intro b4 w7 x8 hge4 hb4
 have hlt4 := hb4.lt
 change Box _ _ _ ([.slice _ _ _]) at hb4
 have z9 := x8.size
 replace hX := hX.ex x8
 replace hs := hs.ext x8
 replace ht := ht.ext x8
 replace hb2 := hb2.ext x8
 replace hb3 := hb3.ext x8
 refine Rr Zi ?_
 refine Qg (QH ?_)
 obtain ⟨n1, hn1⟩ : ∃ n, n = w7.heap.size := ⟨_, rfl⟩
 apply JA (β := False) (fun _ => 0) [peqC _, (postOwn encCk 6 55 1 (keysO X)), peqC _, (postW (ListIs encCk 6 0 (fun M => M = keysO Y))), (postOwn encCk 6 55 1 (keysO X ++ keysO Y))] [0, 1, 0, 0, 1] 5 Jz (by kernel_rfl) (by kernel_rfl) rfl ⟨Q4 _ _, (Jm), Q4 _ _, (Jl (ListIs.keepS _ _ _ _)), (Jm), trivial⟩ ?ob1 ?fin1
 case ob1 =>
  refine Zb (fun w10 c12 x11 hc013 hk14 => ?_) ?_
  ·replace x11 := RelG.ext0 x11
   have z15 := x11.size
   have hb2 := hb2.ext x11
   refine QU ?_
   exact ZL rfl (ZO isAgg63 sizeOf63 rfl hb2.at rfl)
  refine Zb (fun w16 c18 x17 hc019 hk20 => ?_) ?_
  ·replace x17 := RelG.ext0 x17
   have z21 := x17.size
   have hs := hs.ext x17
   refine Qk (QU ?_)
   exact OpC_own rfl (ZK call22 rfl) (ckeys_ok _ _ _ X _ hs (by omega))
  refine Zb (fun w22 c24 x23 hc025 hk26 => ?_) ?_
  ·replace x23 := RelG.ext0 x23
   have z27 := x23.size
   have hb3 := hb3.ext x23
   refine QU ?_
   exact ZL rfl (ZO isAgg63 sizeOf63 rfl hb3.at rfl)
  refine Zb (fun w28 c30 x29 hc031 hk32 => ?_) ?_
  ·replace x29 := RelG.ext0 x29
   have z33 := x29.size
   have ht := ht.ext x29
   refine Qk ?_
   refine ZE (fun v13 hv13 => ?_)
   refine QU ?_
   exact OpC_W (S := ListIs encCk 6 0 (fun M => M = keysO Y)) rfl (ZK call22 rfl) ((ckeys_ok _ _ _ Y _ ht (by omega)).mono (fun v w2 ⟨h, x⟩ => ⟨⟨fun _ _ => Nat.zero_le _, _, h.rd encCk_ok, rfl⟩, x⟩))
  refine Zb (fun w34 c36 x35 hc037 hk38 => ?_) ?_
  ·replace x35 := RelG.ext0 x35
   have z39 := x35.size
   refine ZE (fun v13 hv13 => ?_)
   refine ZE (fun v15 hv15 => ?_)
   obtain ⟨F15, hF15, -, M15, ⟨a15, c15, rfl, hs15⟩, rfl⟩ := hv15
   refine ZE (fun v15 hv15 => ?_)
   obtain ⟨F15, hF15, -, M15, ⟨a15, c15, rfl, hs15⟩, rfl⟩ := hv15
   refine QU ?_
   exact Yd (by decide) encCk_ok el_ck rfl rfl hv13 hs15 rfl (by omega)
  exact Jv
 case fin1 =>
  intro w40 c42 x41 hc043
  replace x41 := RelG.ext0 x41
  have z44 := x41.size
  replace hX := hX.ex x41
  replace hs := hs.ext x41
  replace ht := ht.ext x41
  replace hb2 := hb2.ext x41
  replace hb3 := hb3.ext x41
  replace hb4 := hb4.ext x41
  refine Qk ?_
  refine ZE (fun v13 _ => ?_)
  refine Qk ?_
  refine ZE (fun v15 hv15 => ?_)
  obtain ⟨F15, hF15, -, M15, ⟨a15, c15, rfl, hs15⟩, rfl⟩ := hv15
  refine ZE (fun v16 hv16 => ?_)
  refine QU ?_
  change Own _ _ _ _ _ _ _ at hv16
  replace hv16 := Own.mono hv16 (D' := fun g => w.heap.size ≤ g ∧ g ≠ b2 ∧ g ≠ b3 ∧ g ≠ b4) (fun g h1 h2 => by have hlo : ¬ g < n1 := (fun q => by have h := hc043 g (by omega); rw [h2] at h; simp at h); omega)
  refine Rr (ZD (v := v16) rfl) ?_
  refine Qg (QH (Qc ?_))
  refine Rr (Zt (v := v16) rfl) ?_
  refine ZC rfl (ZW call65 rfl rfl) (Ok.mono (sortcl_ok _ _ (keysO X ++ keysO Y) _ hv16 (by rw [List.length_append]; omega) (fun x hx => (List.mem_append.1 hx).elim (fun h => ⟨keys_wk hX0 x h, keys_kr hX0 x h⟩) (fun h => ⟨keys_wk hY0 x h, keys_kr hY0 x h⟩))) ?_)
  rintro _ w45 ⟨rfl, x46, l2, hpm, hpw, hown6⟩
  have z47 := x46.size
  replace hX := Bel.out hX x46 om2
  replace hs := hs.keep x46 om3
  replace ht := ht.keep x46 om3
  replace hb2 := hb2.keep x46 om1
  replace hb3 := hb3.keep x46 om1
  replace hb4 := hb4.keep x46 om1
  
  refine Qg (QH (Qc ?_))
  refine Rr Zi ?_
  refine Qg (QH (QH (Qc ?_)))
  refine Rr (Zt (v := v16) rfl) ?_
  refine ZC rfl (ZK call60 rfl) (Ok.mono (ckcompV _ _ _ _ hown6) ?_)
  rintro v20 w48 ⟨hown6, x49⟩
  have z50 := x49.size
  replace hX := Bel.out hX x49 om2
  replace hs := hs.keep x49 om3
  replace ht := ht.keep x49 om3
  replace hb2 := hb2.keep x49 om1
  replace hb3 := hb3.keep x49 om1
  replace hb4 := hb4.keep x49 om1
  obtain ⟨K, hK⟩ : ∃ K, K = keysU X Y := ⟨_, rfl⟩
  have hcK := keysU_of hX0 hY0 hpm hpw
  have hKl := keysU_len hpm hcK
  rw [hcK, ← hK] at hown6
  rw [← hK] at hKl
  obtain ⟨a20q, c20q, hv20q, hs20q⟩ := hown6.sl encCk_ok
  subst hv20q
  obtain ⟨n5, hn5⟩ : ∃ n, n = w48.heap.size := ⟨_, rfl⟩
  refine Rr (Z0 underlying70 rfl) ?_
  refine Rr Jj ?_
  refine Qg (ZM ?_)
  refine Jk (α := Nat × Value) [(5, 5), (7, 7), (9, 11), (22, 39)] (fun q => [(22, .int .i64 (q.1 : Int)), (7, q.2)]) (fun q w' => (q.1 ≤ K.length ∧ (K.take q.1).all (fun κ => (thK X Y κ).2) = true) ∧ Bel False (fun g => n5 ≤ g ∨ g = b4) w48 w' ∧ (Own encCo 8 50 (fun g => n5 ≤ g) w' q.2 (thF X Y (K.take q.1)) ∧ Box w' b4 63 (wsS none 0 0))) (fun q => K.length - q.1) (0, .slice none 0 0) ⟨rfl, rfl, trivial⟩ ⟨⟨Nat.zero_le _, by simp⟩, Bel.refl _ _, ⟨Own.nil _ _, hb4⟩⟩ ?_
  rintro ⟨k, t⟩ fb53 w52 ⟨⟨hk, hall⟩, hXL51, ⟨hown7, hb4⟩⟩
  dsimp only at *
  have z54 := Bel.size hXL51
  replace hX := Bel.out hX hXL51 om2
  replace hs := hs.keep hXL51 om3
  replace ht := ht.keep hXL51 om3
  replace hb2 := hb2.keep hXL51 om1
  replace hb3 := hb3.keep hXL51 om1
  replace hs20q := hs20q.keep hXL51 om3
  refine QH (Qc ?_)
  refine Rr (Z5 rfl rfl) ?_
  refine Qg (QH ?_)
  refine ZG rfl (fun hc1 => ?_) (fun hc1 => ?_)
  ·have hk1 : k < K.length := by have := dcT hc1; omega
   refine ZH (QH (ZM (QH (Qc ?_))))
   refine Rr (Js underlying70 sizeOf55 hs20q rfl rfl omg) ?_
   refine Rr (Jx isAgg55 sizeOf55 hs20q rfl (Jw okz (by omega))) ?_
   refine Z8 rfl rfl zeroValue55 rfl sizeOf55 (fun _ => rfl) rfl rfl ?_
   intro b9 w55 x56 hge9 hb9
   replace hown7 := hown7.mono (D' := fun g => n5 ≤ g ∧ g ≠ b9) (fun g h1 h2 => by omega)
   have hlt9 := hb9.lt
   change Box _ _ _ (encCk _) at hb9
   have z57 := x56.size
   replace hX := hX.ex x56
   replace hXL51 := Bel.ex hXL51 x56
   replace hs := hs.ext x56
   replace ht := ht.ext x56
   replace hb2 := hb2.ext x56
   replace hb3 := hb3.ext x56
   replace hown7 := hown7.ext x56
   replace hb4 := hb4.ext x56
   refine Qg (QH (Qc ?_))
   refine Rr (ZO isAgg63 sizeOf63 rfl hb2.at rfl) ?_
   refine Rr (ZO isAgg63 sizeOf63 rfl hb3.at rfl) ?_
   refine Rr (ZO isAgg55 sizeOf55 rfl hb9.at rfl) ?_
   refine ZC rfl (JH call67 rfl rfl rfl) (Ok.mono (cthen_ok (K.getD k okz) a b c d _ _ X Y _ hs ht) ?_)
   rintro _ w58 ⟨⟨u30, rfl, hown30⟩, x59⟩
   have z60 := x59.size
   replace hX := hX.ex x59
   replace hXL51 := Bel.ex hXL51 x59
   replace hown7 := hown7.ext x59
   replace hb4 := hb4.ext x59
   refine Rr (Zt (v := .tuple _) rfl) ?_
   refine Rr (ZS rfl rfl) ?_
   refine Rr (ZS rfl rfl) ?_
   refine Rr (ZD (v := u30) rfl) ?_
   refine Rr (asB rfl) ?_
   refine Qg (QH (QH (Qc ?_)))
   refine Rr (mvB rfl) ?_
   refine Rr (Jf rfl) ?_
   refine Qg ?_
   refine ZG rfl (fun hc2 => ?_) (fun hc2 => ?_)
   ·have ht2 : (thK X Y (K.getD k okz)).2 = false := Eq.mp (Bool.not_eq_true' _) hc2
    refine QH (Qc ?_)
    refine Rr (Z7 (cells := wsS none 0 0) (vs := []) rfl (by kernel_rfl)) ?_
    refine Ja (v := .agg _) rfl sizeOf63 rfl rfl hb4 rfl rfl rfl ?_
    intro w61 c62 hb4
    change Box _ _ _ (wsS _ _ _) at hb4
    have z63 := Bel.size c62
    replace hX := Bel.out hX c62 om2
    replace hXL51 := Bel.out hXL51 c62 om2
    refine Rr Zi ?_
    refine Qg (ZJ ?_)
    refine ⟨_, res_T (vs := [.agg _, .int _ _]) rfl ⟨Ju isAgg63 sizeOf63 rfl hb4.at rfl, rfl, trivial⟩ (by simp), ?_⟩
    have e0 : thenS X Y = ([], 7) := by rw [thenS, ← hK, if_neg (by rw [all_no hk1 ht2]; simp)]
    rw [e0]
    exact ⟨⟨none, 0, rfl, Sl.none⟩, hX⟩
   have ht2 : (thK X Y (K.getD k okz)).2 = true := Eq.mp (Bool.not_eq_false' _) hc2
   refine ZH (Qc ?_)
   obtain ⟨a30, c30, hv30, hs30⟩ := hown30.sl encCo_ok
   subst hv30
   refine Rr (Zt (v := t) rfl) ?_
   refine Rr (mvS rfl) ?_
   refine Jd rfl encCo_ok el_co rfl rfl hown7 hs30 rfl (by have h1 := thF_len X Y (K.take k); have h2 : (thK X Y (K.getD k okz)).1.length ≤ 2 := thenO_len _ _ _ _; rw [List.length_take, Nat.min_eq_left (by omega)] at h1; show ((thF X Y (K.take k)).length + (thK X Y (K.getD k okz)).1.length) * _ ≤ _; omega) omU ?_
   intro v38 w64 x65 hown7
   have z66 := x65.size
   replace hX := Bel.out hX x65 om2
   replace hXL51 := Bel.out hXL51 x65 om2
   replace hb4 := hb4.keep x65 om1
   refine Rr (ZD (v := v38) rfl) ?_
   refine Qg (Qc ?_)
   refine Rr (Z1 rfl rfl omg) ?_
   refine Rr (mvI rfl) ?_
   refine Qg ?_
   refine ⟨(k + 1, v38), ⟨sT, sT, trivial⟩, oT, ⟨?_, hXL51, ?_⟩, ?_⟩
   ·exact ⟨by show k + 1 ≤ K.length; omega, all_succ hk1 hall ht2⟩
   ·rw [thF_succ hk1]; exact ⟨hown7.mono (fun g h1 h2 => by omega), hb4⟩
   ·show K.length - (k + 1) < K.length - k; omega
  have hk1 : ¬ k < K.length := by have := dcF hc1; omega
  refine Z4 (ZX (QH (Qc ?_)))
  rw [List.take_of_length_le (by omega)] at hown7
  refine Rr (Zt (v := t) rfl) ?_
  refine ZC rfl (ZK call16 rfl) (Ok.mono (cof_ok _ _ (thF X Y K) (hown7.trd encCo_ok) (by have := thF_len X Y K; omega) (thF_ok hXp hYp K)) ?_)
  rintro _ w67 ⟨⟨a41, c41, rfl, hs41⟩, x68⟩
  have z69 := x68.size
  replace hX := hX.ex x68
  replace hb4 := hb4.ext x68
  refine Rr (ZS rfl rfl) ?_
  refine Rr (ZS rfl rfl) ?_
  refine Ja (v := .agg _) rfl sizeOf63 rfl rfl hb4 rfl rfl rfl ?_
  intro w70 c71 hb4
  change Box _ _ _ (wsS _ _ _) at hb4
  have z72 := Bel.size c71
  replace hX := Bel.out hX c71 om2
  replace hs41 := hs41.keep c71 om3
  refine Rr (asI rfl) ?_
  refine Qg (ZJ ?_)
  refine ⟨_, res_T (vs := [.agg _, .int _ _]) rfl ⟨Ju isAgg63 sizeOf63 rfl hb4.at rfl, rfl, trivial⟩ (by simp), ?_⟩
  have hkK : k = K.length := by omega
  rw [hkK, List.take_length] at hall
  have e0 : thenS X Y = ofO (thF X Y K) := by rw [thenS, ← hK, if_pos hall]
  rw [e0]
  exact ⟨⟨a41, c41, rfl, hs41.mono (fun g h1 h2 => ⟨by have := h2.1; omega, by omega⟩)⟩, hX⟩

