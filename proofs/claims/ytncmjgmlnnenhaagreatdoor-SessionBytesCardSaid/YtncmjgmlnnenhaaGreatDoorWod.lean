/- Walks, printed by program: each theorem says what a function of the translation returns. -/
import Derived.Test.YtncmjgmlnnenhaaGreatDoorWbits
import Derived.Test.YtncmjgmlnnenhaaGreatDoorWpr
import Derived.Test.YtncmjgmlnnenhaaGreatDoorPtr
namespace Go.Proofs.YtncmjgmlnnenhaaGreatDoor
open Go Go.Lx Go.RowKit
set_option maxRecDepth 100000
set_option linter.unusedVariables false
set_option linter.unusedSimpArgs false
set_option linter.unnecessarySimpa false
theorem el_set : ElT Tryz.prog 199 36 1 24 (.agg #[.slice none 0 0]) := ⟨Tryz.underlying199, ⟨Tryz.t36, by kernel_rfl, rfl, rfl, rfl⟩, rfl, by decide, by decide⟩
theorem oin_ok (w : World) (po : Nat) (o : OV) (Fo : Nat → Prop) (ho : OdAt Fo w po o) (a : Int) : Ok Tryz.prog 139 #[.pointer (some ⟨po, 0, none⟩), .int .i64 a] w fun v w' => v = .bool (decide (0 ≤ a) && decide (a < (o.n : Int))) ∧ Ext False w w' := by
  replace ho := ho.mono (F' := fun g => Fo g ∧ g < w.heap.size) (fun g h1 h2 => ⟨h2, h1⟩)
  have hoa := ho.at'
  have hol := ho.lt
  refine Ok_of_W 19 Tryz.func139 rfl rfl rfl ?_
  have hX : Ext False w w := Bel.refl _ _
  refine W_seq (W_region ?_)
  refine Rg_run rfl o_assignc ?_
  refine Rg_nil (W_seq (W_region ?_))
  refine Rg_run rfl (o_moveh (v := .pointer _) rfl) ?_
  refine Rg_run rfl (o_pne Tryz.underlying142 rfl rfl) ?_
  refine Rg_run rfl (o_moveh (v := .bool _) rfl) ?_
  refine Rg_on 2 7 rfl rfl ?_
  refine Rg_run rfl (o_moveh (v := .int _ _) rfl) ?_
  refine Rg_on 2 7 rfl rfl ?_
  refine Rg_run rfl (o_geq rfl rfl) ?_
  refine Rg_run rfl (o_pickT (v := .bool _) rfl rfl) ?_
  refine Rg_run rfl (o_moveh (v := .bool _) rfl) ?_
  refine Rg_may 6 11 rfl rfl rfl (fun hg => (o_moveh (v := .int _ _) rfl)) ?_
  refine Rg_may 6 11 rfl rfl rfl (fun hg => (o_moveh (v := .pointer _) rfl)) ?_
  refine Rg_may 6 11 rfl rfl rfl (fun hg => (o_nilc (gsel (u := undef) hg))) ?_
  refine Rg_may 6 11 rfl rfl rfl (fun hg => (o_fa Tryz.underlying201 rfl Tryz.sizeOf3 (gsel (u := undef) hg))) ?_
  refine Rg_may 6 11 rfl rfl rfl (fun hg => (o_load1 Tryz.isAgg3 (gsel (u := undef) hg) (hoa.get 0 rfl))) ?_
  refine Rg_may 6 11 rfl rfl rfl (fun hg => (o_lss (gsel (u := undef) hg) (gsel (u := undef) hg))) ?_
  refine Rg_run rfl (o_and (u := undef) rfl rfl) ?_
  refine Rg_run rfl (o_assignh (v := .bool _) rfl) ?_
  refine Rg_nil (W_ret ?_)
  refine ⟨_, res_tmp rfl rfl, ?_⟩
  refine ⟨congrArg Value.bool ?_, hX⟩
  all_goals (rfl)

theorem obelow_ok (w : World) (po : Nat) (o : OV) (Fo : Nat → Prop) (ho : OdAt Fo w po o) (a : Int) (hr : I64 a) : Ok Tryz.prog 128 #[.pointer (some ⟨po, 0, none⟩), .int .i64 a] w fun v w' => ∃ x c, v = .agg (encSV ⟨x, c, belO o a⟩).toArray ∧ Sl encU 1 Fo w' x c (wl (belO o a)) ∧ Ext False w w' := by
  replace ho := ho.mono (F' := fun g => Fo g ∧ g < w.heap.size) (fun g h1 h2 => ⟨h2, h1⟩)
  have hoa := ho.at'
  have hol := ho.lt
  refine Ok_of_W 17 Tryz.func128 rfl rfl rfl ?_
  have hX : Ext False w w := Bel.refl _ _
  refine W_seq (W_region ?_)
  refine Rg_newB rfl (o_alloc Tryz.zeroValue36) ?_
  intro b4 w1 x2 hge4 hb4
  have hlt4 := hb4.lt
  change Box _ _ _ ([.slice _ _ _]) at hb4
  have z3 := Bel.size x2
  replace hX := Bel.ex hX x2
  replace hoa := hoa.ext x2
  replace ho := ho.ext x2
  refine Rg_nil (W_seq (W_seq (W_region ?_)))
  refine Rg_run rfl (o_moveh (v := .pointer _) rfl) ?_
  refine Rg_run rfl (o_moveh (v := .int _ _) rfl) ?_
  refine Rg_enter rfl (o_call2 Tryz.call139 rfl rfl) (Ok.mono (oin_ok _ _ _ _ ho _) ?_)
  rintro _ w4 ⟨rfl, x5⟩
  have z6 := Bel.size x5
  replace hX := Bel.ex hX x5
  replace hoa := hoa.ext x5
  replace ho := ho.ext x5
  replace hb4 := hb4.ext x5
  refine Rg_run rfl (o_not rfl) ?_
  refine Rg_nil ?_
  refine W_cond rfl (fun hc1 => ?_) (fun hc1 => ?_)
  · skip
    have hb1 : belO o a = 0 := by unfold belO; rw [if_neg (by simp at hc1; omega)]
    refine W_seq (W_region ?_)
    refine Rg_run rfl (o_build (cells := encSV ⟨none, 0, 0⟩) (vs := []) rfl (by kernel_rfl)) ?_
    refine Rg_storeW (v := .agg _) rfl Tryz.sizeOf36 rfl rfl hb4 rfl rfl rfl ?_
    intro w7 c8 hb4
    change Box _ _ _ (encSV _) at hb4
    have z9 := Bel.size c8
    replace hX := Bel.out hX c8 (fun g h1 h2 => by first | exact h2 | omega)
    refine Rg_nil (W_ret ?_)
    refine ⟨_, res_1 (v := .agg _) rfl (rv_cellS Tryz.isAgg36 Tryz.sizeOf36 rfl hb4.at rfl), ?_⟩
    rw [hb1]; exact ⟨_, _, rfl, Sl.none, hX⟩
  have hin : 0 ≤ a ∧ a < (o.n : Int) := by simpa using hc1
  obtain ⟨an, rfl⟩ : ∃ n : Nat, a = n := ⟨a.toNat, by omega⟩
  have hln := ho.lb
  refine W_skip (W_seq (W_region ?_))
  refine Rg_run rfl (o_moveh (v := .pointer _) rfl) ?_
  refine Rg_run rfl (o_nilc rfl) ?_
  refine Rg_run rfl (o_fa Tryz.underlying201 rfl Tryz.sizeOf199 rfl) ?_
  refine Rg_run rfl (o_load1 Tryz.isAgg199 rfl (hoa.get 3 rfl)) ?_
  refine Rg_run rfl (o_moveh (v := .int _ _) rfl) ?_
  refine Rg_run rfl (o_iaR Tryz.underlying199 Tryz.sizeOf36 ho.be rfl rfl (by first | omega | (unfold I64; omega) | (simp; done) | (simp; omega) | (simp at *; omega))) ?_
  refine Rg_run rfl (o_ldRS Tryz.isAgg36 Tryz.sizeOf36 ho.be rfl (getE sz (by omega))) ?_
  refine Rg_storeW (v := .agg _) rfl Tryz.sizeOf36 rfl rfl hb4 rfl rfl rfl ?_
  intro w10 c11 hb4
  change Box _ _ _ (encSV _) at hb4
  have z12 := Bel.size c11
  replace hX := Bel.out hX c11 (fun g h1 h2 => by first | exact h2 | omega)
  replace ho := ho.keep c11 (fun g h1 h2 h3 => by omega)
  refine Rg_nil (W_ret ?_)
  refine ⟨_, res_1 (v := .agg _) rfl (rv_cellS Tryz.isAgg36 Tryz.sizeOf36 rfl hb4.at rfl), ?_⟩
  have e1 : belO o (an : Int) = (o.below.getD an sz).x := by unfold belO; rw [if_pos hin]; rfl
  rw [e1]; exact ⟨_, _, rfl, (ho.wb _ (gm (by omega))).mono (fun g h1 h2 => h2.1), hX⟩

theorem hrole_ok (w : World) (r : Int) : Ok Tryz.prog 80 #[.int .i64 r] w fun v w' => v = .bool (decide (1 ≤ r) && decide (r ≤ 63)) ∧ Ext False w w' := by
  refine Ok_of_W 9 Tryz.func80 rfl rfl rfl ?_
  have hX : Ext False w w := Bel.refl _ _
  refine W_seq (W_region ?_)
  refine Rg_run rfl o_assignc ?_
  refine Rg_nil (W_seq (W_region ?_))
  refine Rg_run rfl (o_moveh (v := .int _ _) rfl) ?_
  refine Rg_run rfl (o_geq rfl rfl) ?_
  refine Rg_run rfl (o_moveh (v := .bool _) rfl) ?_
  refine Rg_may 2 5 rfl rfl rfl (fun hg => (o_moveh (v := .int _ _) rfl)) ?_
  refine Rg_may 2 5 rfl rfl rfl (fun hg => (o_leq (gsel (u := undef) hg) rfl)) ?_
  refine Rg_run rfl (o_and (u := undef) rfl rfl) ?_
  refine Rg_run rfl (o_assignh (v := .bool _) rfl) ?_
  refine Rg_nil (W_ret ?_)
  refine ⟨_, res_tmp rfl rfl, ?_⟩
  refine ⟨congrArg Value.bool ?_, hX⟩
  all_goals (rfl)

theorem hjun_nil (r : Int) (Fh : Nat → Prop) (w : World) : Ok Tryz.prog 74 #[.pointer none, .int .i64 r] w fun v w' => ∃ x c, v = .agg (encSV ⟨x, c, 0⟩).toArray ∧ Sl encU 1 (fun g => Fh g ∨ Fsh w w' g) w' x c (wl (0)) ∧ Ext False w w' := by
  refine Ok_of_W 21 Tryz.func74 rfl rfl rfl ?_
  have hX : Ext False w w := Bel.refl _ _
  refine W_seq (W_region ?_)
  refine Rg_newB rfl (o_alloc Tryz.zeroValue36) ?_
  intro b4 w1 x2 hge4 hb4
  have hlt4 := hb4.lt
  change Box _ _ _ ([.slice _ _ _]) at hb4
  have z3 := Bel.size x2
  replace hX := Bel.ex hX x2
  refine Rg_nil (W_seq (W_seq (W_region ?_)))
  refine Rg_run rfl (o_moveh (v := .pointer _) rfl) ?_
  refine Rg_run rfl (o_peq Tryz.underlying65 rfl rfl) ?_
  refine Rg_run rfl (o_moveh (v := .bool _) rfl) ?_
  refine Rg_off 2 7 rfl rfl rfl rfl rfl ?_
  refine Rg_off 2 7 rfl rfl rfl rfl rfl ?_
  refine Rg_off 2 7 rfl rfl rfl rfl rfl ?_
  refine Rg_run rfl (o_pickT (v := .bool _) rfl rfl) ?_
  refine Rg_nil ?_
  refine W_cond_true rfl ?_
  refine W_seq (W_region ?_)
  refine Rg_run rfl (o_build (cells := encSV ⟨none, 0, 0⟩) (vs := []) rfl (by kernel_rfl)) ?_
  refine Rg_storeW (v := .agg _) rfl Tryz.sizeOf36 rfl rfl hb4 rfl rfl rfl ?_
  intro w4 c5 hb4
  change Box _ _ _ (encSV _) at hb4
  have z6 := Bel.size c5
  replace hX := Bel.out hX c5 (fun g h1 h2 => by first | exact h2 | omega)
  refine Rg_nil (W_ret ?_)
  refine ⟨_, res_1 (v := .agg _) rfl (rv_cellS Tryz.isAgg36 Tryz.sizeOf36 rfl hb4.at rfl), ?_⟩
  exact ⟨_, _, rfl, Sl.none, hX⟩

theorem hjun_some (ph po : Nat) (h : OV) (Fh : Nat → Prop) (r : Int) (w : World) (hha : At w ph 0 [.pointer (some ⟨po, 0, none⟩)]) (ho : OdAt Fh w po h) (hr : I64 r) : Ok Tryz.prog 74 #[.pointer (some ⟨ph, 0, none⟩), .int .i64 r] w fun v w' => ∃ x c, v = .agg (encSV ⟨x, c, junO h r⟩).toArray ∧ Sl encU 1 (fun g => Fh g ∨ Fsh w w' g) w' x c (wl (junO h r)) ∧ Ext False w w' := by
  replace ho := ho.mono (F' := fun g => Fh g ∧ g < w.heap.size) (fun g h1 h2 => ⟨h2, h1⟩)
  have hl1 := hha.lt; have hl2 := ho.lt
  refine Ok_of_W 21 Tryz.func74 rfl rfl rfl ?_
  have hX : Ext False w w := Bel.refl _ _
  refine W_seq (W_region ?_)
  refine Rg_newB rfl (o_alloc Tryz.zeroValue36) ?_
  intro b4 w1 x2 hge4 hb4
  have hlt4 := hb4.lt
  change Box _ _ _ ([.slice _ _ _]) at hb4
  have z3 := Bel.size x2
  replace hX := Bel.ex hX x2
  replace hha := hha.ext x2
  replace ho := ho.ext x2
  refine Rg_nil (W_seq (W_seq (W_region ?_)))
  refine Rg_run rfl (o_moveh (v := .pointer _) rfl) ?_
  refine Rg_run rfl (o_peq Tryz.underlying65 rfl rfl) ?_
  refine Rg_run rfl (o_moveh (v := .bool _) rfl) ?_
  refine Rg_on 2 7 rfl rfl ?_
  refine Rg_run rfl (o_moveh (v := .int _ _) rfl) ?_
  refine Rg_on 2 7 rfl rfl ?_
  refine Rg_enter rfl (o_call1 Tryz.call80 rfl) (Ok.mono (hrole_ok _ _) ?_)
  rintro _ w4 ⟨rfl, x5⟩
  have z6 := Bel.size x5
  replace hX := Bel.ex hX x5
  replace hha := hha.ext x5
  replace ho := ho.ext x5
  replace hb4 := hb4.ext x5
  refine Rg_on 2 7 rfl rfl ?_
  refine Rg_run rfl (o_not rfl) ?_
  refine Rg_run rfl (o_pickF (v := .bool _) rfl rfl) ?_
  refine Rg_nil ?_
  refine W_cond rfl (fun hc1 => ?_) (fun hc1 => ?_)
  · skip
    have hj : junO h r = 0 := by unfold junO; rw [if_neg (by simp at hc1; omega)]
    refine W_seq (W_region ?_)
    refine Rg_run rfl (o_build (cells := encSV ⟨none, 0, 0⟩) (vs := []) rfl (by kernel_rfl)) ?_
    refine Rg_storeW (v := .agg _) rfl Tryz.sizeOf36 rfl rfl hb4 rfl rfl rfl ?_
    intro w7 c8 hb4
    change Box _ _ _ (encSV _) at hb4
    have z9 := Bel.size c8
    replace hX := Bel.out hX c8 (fun g h1 h2 => by first | exact h2 | omega)
    refine Rg_nil (W_ret ?_)
    refine ⟨_, res_1 (v := .agg _) rfl (rv_cellS Tryz.isAgg36 Tryz.sizeOf36 rfl hb4.at rfl), ?_⟩
    rw [hj]; exact ⟨_, _, rfl, Sl.none, hX⟩
  have hin : 1 ≤ r ∧ r ≤ 63 := by simpa using hc1
  obtain ⟨rn, rfl⟩ : ∃ n : Nat, r = n := ⟨r.toNat, by omega⟩
  have hj : junO h (rn : Int) = belO h (rn : Int) ||| oneW rn := by unfold junO; rw [if_pos hin]; rfl
  refine W_skip (W_seq (W_region ?_))
  refine Rg_run rfl (o_moveh (v := .pointer _) rfl) ?_
  refine Rg_run rfl (o_nilc rfl) ?_
  refine Rg_run rfl (o_fa Tryz.underlying146 rfl Tryz.sizeOf142 rfl) ?_
  refine Rg_run rfl (o_load1 Tryz.isAgg142 rfl (hha.get 0 rfl)) ?_
  refine Rg_run rfl (o_moveh (v := .int _ _) rfl) ?_
  refine Rg_enter rfl (o_call2 Tryz.call128 rfl rfl) (Ok.mono (obelow_ok _ _ _ _ ho _ hr) ?_)
  rintro _ w10 ⟨a18, c18, rfl, hq18, x11⟩
  have z12 := Bel.size x11
  replace hX := Bel.ex hX x11
  replace hb4 := hb4.ext x11
  refine Rg_run rfl (o_moveh (v := .int _ _) rfl) ?_
  refine Rg_enter rfl (o_call2 Tryz.call47 rfl rfl) (Ok.mono (bwith_ok _ ⟨_, _, _⟩ _ hq18 _ (by omega)) ?_)
  rintro _ w13 ⟨a20, c20, rfl, hq20, x14⟩
  have z15 := Bel.size x14
  replace hX := Bel.ex hX x14
  replace hb4 := hb4.ext x14
  refine Rg_storeW (v := .agg _) rfl Tryz.sizeOf36 rfl rfl hb4 rfl rfl rfl ?_
  intro w16 c17 hb4
  change Box _ _ _ (encSV _) at hb4
  have z18 := Bel.size c17
  replace hX := Bel.out hX c17 (fun g h1 h2 => by first | exact h2 | omega)
  replace hq20 := hq20.keep c17 (fun g h1 h2 h3 => by omega)
  refine Rg_nil (W_ret ?_)
  refine ⟨_, res_1 (v := .agg _) rfl (rv_cellS Tryz.isAgg36 Tryz.sizeOf36 rfl hb4.at rfl), ?_⟩
  rw [hj]; exact ⟨_, _, rfl, hq20.mono (fun g h1 h2 => h2.elim (fun h2 => Or.inl h2.1) (fun h2 => Or.inr ⟨by omega, by omega⟩)), hX⟩

theorem hjun_ok (w : World) (v : Value) (H : Option OV) (Fh : Nat → Prop) (hH : HrAt Fh w v H) (r : Int) (hr : I64 r) : Ok Tryz.prog 74 #[v, .int .i64 r] w fun v w' => ∃ x c, v = .agg (encSV ⟨x, c, junH H r⟩).toArray ∧ Sl encU 1 (fun g => Fh g ∨ Fsh w w' g) w' x c (wl (junH H r)) ∧ Ext False w w' := by
  cases H with
  | none => obtain rfl := hH; exact hjun_nil r Fh w
  | some o => obtain ⟨ph, po, rfl, h1, h2, h3⟩ := hH; exact hjun_some ph po o Fh r w h2 h3 hr
theorem hclos_ok (p : Option Addr) (H : Option OV) (Fh : Nat → Prop) (s : SV) (Gs : Nat → Prop) (w : World) (hH : HrAt Fh w (.pointer p) H) (hs : Sl encU 1 Gs w s.a s.c (wl s.x)) (hT : Tb w) : Ok Tryz.prog 26 #[.pointer p, .agg (encSV s).toArray] w fun v w' => ∃ x c, v = .agg (encSV ⟨x, c, closH H (memW s.x 64)⟩).toArray ∧ Sl encU 1 (Fsh w w') w' x c (wl (closH H (memW s.x 64))) ∧ Ext False w w' := by
  replace hH := hH.mono (F' := fun g => Fh g ∧ g < w.heap.size) (fun g h1 h2 => ⟨h2, h1⟩)
  replace hs := hs.mono (F' := fun g => Gs g ∧ g < w.heap.size) (fun g h1 h2 => ⟨h2, h1⟩)
  have hTl := hT.lt
  refine Ok_of_WM 16 Tryz.func26 rfl rfl rfl ?_
  have hX : Ext False w w := Bel.refl _ _
  refine W_seq (W_region ?_)
  refine Rg_newB rfl (o_box (v := .pointer _) rfl) ?_
  intro b2 w1 x2 hge2 hb2
  have hlt2 := hb2.lt
  have z3 := Bel.size x2
  replace hX := Bel.ex hX x2
  replace hH := hH.ext x2
  replace hs := hs.ext x2
  replace hT := hT.ext x2
  refine Rg_newB rfl (o_box (v := .agg _) rfl) ?_
  intro b3 w4 x5 hge3 hb3
  have hlt3 := hb3.lt
  change Box _ _ _ (encSV _) at hb3
  have z6 := Bel.size x5
  replace hX := Bel.ex hX x5
  replace hH := hH.ext x5
  replace hs := hs.ext x5
  replace hT := hT.ext x5
  replace hb2 := hb2.ext x5
  refine Rg_newB rfl (o_alloc Tryz.zeroValue36) ?_
  intro b4 w7 x8 hge4 hb4
  have hlt4 := hb4.lt
  change Box _ _ _ ([.slice _ _ _]) at hb4
  have z9 := Bel.size x8
  replace hX := Bel.ex hX x8
  replace hH := hH.ext x8
  replace hs := hs.ext x8
  replace hT := hT.ext x8
  replace hb2 := hb2.ext x8
  replace hb3 := hb3.ext x8
  refine Rg_nil (W_seq (W_region ?_))
  refine Rg_newB rfl (o_alloc Tryz.zeroValue36) ?_
  intro b5 w10 x11 hge5 hb5
  have hlt5 := hb5.lt
  change Box _ _ _ ([.slice _ _ _]) at hb5
  have z12 := Bel.size x11
  replace hX := Bel.ex hX x11
  replace hH := hH.ext x11
  replace hs := hs.ext x11
  replace hT := hT.ext x11
  replace hb2 := hb2.ext x11
  replace hb3 := hb3.ext x11
  replace hb4 := hb4.ext x11
  refine Rg_nil (W_seq (W_seq (W_region ?_)))
  refine Rg_run rfl (o_loadS Tryz.isAgg36 Tryz.sizeOf36 rfl hb3.at rfl) ?_
  refine Rg_enter rfl (o_call1 Tryz.call72 rfl) (Ok.mono (ball_ok _ ⟨_, _, _⟩ _ hs) ?_)
  rintro v8 w13 ⟨b8, rfl, hge8, hb8, x14⟩
  have z15 := Bel.size x14
  replace hX := Bel.ex hX x14
  replace hH := hH.ext x14
  replace hs := hs.ext x14
  replace hT := hT.ext x14
  replace hb2 := hb2.ext x14
  replace hb4 := hb4.ext x14
  replace hb5 := hb5.ext x14
  have hlt8 := hb8.lt
  refine Rg_nil (W_block ?_)
  obtain ⟨m0, hm0⟩ : ∃ m, m = w13.heap.size := ⟨_, rfl⟩
  refine W_range (memW s.x 64) (fun i => Value.int .i64 i) (fun g => g = b5) (fun i w' => Bel False (fun g => g = b5) w13 w' ∧ ∃ a c, Box w' b5 36 (encSV ⟨a, c, closH H ((memW s.x 64).take i)⟩) ∧ Sl encU 1 (fun g => m0 + 2 ≤ g) w' a c (wl (closH H ((memW s.x 64).take i)))) rfl rfl Tryz.call126 (ball_iter _ _ ⟨_, _, _⟩ _ _ hb8 hs hT (by omega) (by omega) (fun g h1 h2 h3 => by omega)) (fun g h => by omega) (fun i a b hsz hi x => ?_) (fun a x hsz => ?_) (fun l i y w16 hy hsz hi => ?_) (fun w17 hsz hi hmkm0 => ?_)
  · obtain ⟨hB, ⟨ao, co, hb5, hq5⟩⟩ := hi; exact ⟨Bel.out hB x (fun g h1 h2 => by omega), _, _, hb5.keep x (by omega), hq5.keep x (fun g h1 h2 h3 => by omega)⟩
  · exact ⟨x.mono fun _ _ h => h.elim, _, _, hb5.ext x, Sl.none⟩
  · skip
    obtain ⟨hXR18, ⟨ao, co, hb5, hq5⟩⟩ := hi
    have z19 := Bel.size hXR18
    replace hX := Bel.out hX hXR18 (fun g h1 h2 => by first | exact h2 | omega)
    replace hH := hH.keep hXR18 (fun g h1 h2 h3 => by omega)
    replace hb2 := hb2.keep hXR18 (fun h => by omega)
    refine W_region ?_
    refine Rg_run rfl (o_assignh (v := .int _ _) rfl) ?_
    refine Rg_nil ?_
    refine ⟨Ext.rfl' _, fun w20 x21 => ?_⟩
    have z22 := Bel.size x21
    replace hH := hH.keep x21 (fun g h1 h2 h3 => by omega)
    replace hb2 := hb2.keep x21 (fun h => by omega)
    replace hb5 := hb5.keep x21 (fun h => by omega)
    replace hq5 := hq5.keep x21 (fun g h1 h2 h3 => by omega)
    have hXB : Bel False (fun g => g = b5) w20 w20 := Bel.refl _ _
    refine W_block ?_
    apply W_draw (β := False) [peq _, peq _, peq _, (postSV (fun g => (Fh g ∧ g < w.heap.size) ∨ m0 + 2 ≤ g) (junH H y)), (postSV (fun g => m0 + 2 ≤ g) (closH H ((memW s.x 64).take i) ||| junH H y))] 5 mixed (by kernel_rfl) rfl ⟨peq_stable _, peq_stable _, peq_stable _, (postSV_stable _ _), (postSV_stable _ _), trivial⟩ ?ob4 ?fin4
    case ob4 =>
      refine OblL_cons (fun w23 x24 => ?_) ?_
      · skip
        have z25 := Bel.size x24
        have hb5 := hb5.ext x24
        refine bindP_nil ?_
        exact OpS_v rfl (o_loadS Tryz.isAgg36 Tryz.sizeOf36 rfl hb5.at rfl)
      refine OblL_cons (fun w26 x27 => ?_) ?_
      · skip
        have z28 := Bel.size x27
        have hb2 := hb2.ext x27
        refine bindP_nil ?_
        exact OpS_v rfl (o_load1 Tryz.isAgg65 rfl (hb2.at.get 0 rfl))
      refine OblL_cons (fun w29 x30 => ?_) ?_
      · skip
        have z31 := Bel.size x30
        refine bindP_nil ?_
        exact OpS_v rfl (o_moveh (v := .int _ _) rfl)
      refine OblL_cons (fun w32 x33 => ?_) ?_
      · skip
        have z34 := Bel.size x33
        have hH := hH.ext x33
        refine bindP_eq (bindP_eq (bindP_nil ?_))
        exact OpS_mem rfl (o_call2 Tryz.call74 rfl rfl) ((hjun_ok _ _ _ _ hH _ (by have := memW_ok s.x y (List.mem_of_getElem? hy); unfold I64; omega)).mono (fun v w2 ⟨a, c, e, h, x⟩ => ⟨x, a, c, e, h.mono (fun g h1 h2 => h2.elim (fun h2 => Or.inl h2) (fun h2 => Or.inr (by omega)))⟩))
      refine OblL_cons (fun w35 x36 => ?_) ?_
      · skip
        have z37 := Bel.size x36
        have hq5 := hq5.ext x36
        refine bindP_eq ?_
        refine bindP_mem (fun v13 hv13 => ?_)
        obtain ⟨a13, c13, rfl, hq13⟩ := hv13
        refine bindP_mem (fun v13 hv13 => ?_)
        obtain ⟨a13, c13, rfl, hq13⟩ := hv13
        refine bindP_nil ?_
        exact OpS_mem rfl (o_call2 Tryz.call73 rfl rfl) ((bor_ok _ ⟨_, _, _⟩ _ hq5 ⟨_, _, _⟩ _ hq13).mono (fun v w2 ⟨a, c, e, h, x⟩ => ⟨x, a, c, e, h.mono (fun g h1 h2 => by omega)⟩))
      exact OblL_nil
    case fin4 =>
      intro w38 x39
      have z40 := Bel.size x39
      replace hXB := Bel.ex hXB x39
      replace hb5 := hb5.ext x39
      refine bindP_eq (bindP_eq (bindP_eq ?_))
      refine bindP_mem (fun v13 hv13 => ?_)
      obtain ⟨a13, c13, rfl, hq13⟩ := hv13
      refine bindP_mem (fun v14 hv14 => ?_)
      obtain ⟨a14, c14, rfl, hq14⟩ := hv14
      refine bindP_nil ?_
      refine Rg_storeW (v := .agg _) rfl Tryz.sizeOf36 rfl rfl hb5 rfl rfl rfl ?_
      intro w41 c42 hb5
      change Box _ _ _ (encSV _) at hb5
      have z43 := Bel.size c42
      replace hXB := Bel.out hXB c42 (fun g h1 h2 => by first | exact h2 | omega)
      replace hq14 := hq14.keep c42 (fun g h1 h2 h3 => by omega)
      refine Rg_nil ?_
      refine ⟨hXB, Bel.out (Bel.out hXR18 x21 (fun g h1 h2 => by omega)) hXB (fun g h1 h2 => by first | exact h2 | omega), ?_⟩
      rw [closH_succ hy]; exact ⟨_, _, hb5, hq14⟩
  obtain ⟨hXR44, ⟨ao, co, hb5, hq5⟩⟩ := hi
  have z45 := Bel.size hXR44
  replace hX := Bel.out hX hXR44 (fun g h1 h2 => by first | exact h2 | omega)
  replace hb4 := hb4.keep hXR44 (fun h => by omega)
  rw [List.take_length] at hb5 hq5
  rw [← hm0]
  have hmk : Mks w17 [m0] := ⟨by simp, (congrArg (fun k => w17.heap[k]?) hm0).trans hmkm0, trivial⟩
  refine W_seq (W_region ?_)
  refine Rg_run rfl (o_loadS Tryz.isAgg36 Tryz.sizeOf36 rfl hb5.at rfl) ?_
  refine Rg_storeW (v := .agg _) rfl Tryz.sizeOf36 rfl rfl hb4 rfl rfl rfl ?_
  intro w46 c47 hb4
  change Box _ _ _ (encSV _) at hb4
  have z48 := Bel.size c47
  replace hX := Bel.out hX c47 (fun g h1 h2 => by first | exact h2 | omega)
  replace hq5 := hq5.keep c47 (fun g h1 h2 h3 => by omega)
  replace hmk := hmk.kp c47 (fun g h1 h2 => by simp only [List.mem_singleton] at h1; omega)
  refine Rg_nil (W_ret ?_)
  obtain ⟨w49, hw49⟩ : ∃ u, u = shut w46 [m0] := ⟨_, rfl⟩
  have x50 : Bel False (fun g => g ∈ [m0]) w46 w49 := by rw [hw49]; exact shut_bel _ _
  refine ⟨[m0], ?_⟩
  rw [← hw49]
  have hmk0 := hmk
  replace x50 := x50.mono (D' := fun g => g = m0) (fun g _ h => by simpa using h)
  have z51 := Bel.size x50
  replace hX := Bel.out hX x50 (fun g h1 h2 => by first | exact h2 | omega)
  replace hb4 := hb4.keep x50 (fun h => by omega)
  replace hq5 := hq5.keep x50 (fun g h1 h2 h3 => by omega)
  refine ⟨_, hmk0, res_1 (v := .agg _) rfl (rv_cellS Tryz.isAgg36 Tryz.sizeOf36 rfl hb4.at rfl), ?_⟩
  exact ⟨_, _, rfl, hq5.mono (fun g h1 h2 => ⟨by omega, by omega⟩), hX⟩

theorem opairs_ok (w : World) (po : Nat) (o : OV) (Fo : Nat → Prop) (ho : OdAt Fo w po o) (hn : o.pairs.length ≤ 1000000) : Ok Tryz.prog 141 #[.pointer (some ⟨po, 0, none⟩)] w fun v w' => Own encPr 2 127 (Fsh w w') w' v o.pairs ∧ Ext False w w' := by
  replace ho := ho.mono (F' := fun g => Fo g ∧ g < w.heap.size) (fun g h1 h2 => ⟨h2, h1⟩)
  have hoa := ho.at'
  have hol := ho.lt
  refine Ok_of_W 10 Tryz.func141 rfl rfl rfl ?_
  have hX : Ext False w w := Bel.refl _ _
  refine W_seq (W_region ?_)
  refine Rg_run rfl o_assignc ?_
  refine Rg_nil (W_seq (W_seq (W_region ?_)))
  refine Rg_run rfl (o_moveh (v := .pointer _) rfl) ?_
  refine Rg_run rfl (o_peq Tryz.underlying142 rfl rfl) ?_
  refine Rg_nil ?_
  refine W_cond_false rfl ?_
  refine W_skip (W_seq (W_region ?_))
  refine Rg_run rfl (o_moveh (v := .pointer _) rfl) ?_
  refine Rg_run rfl (o_nilc rfl) ?_
  refine Rg_run rfl (o_fa Tryz.underlying201 rfl Tryz.sizeOf66 rfl) ?_
  refine Rg_run rfl (o_load1 Tryz.isAgg66 rfl (hoa.get 1 rfl)) ?_
  refine Rg_enter rfl (o_call1 Tryz.call172 rfl) (Ok.mono (pclone_ok _ _ _ (ho.pr.trd.top) hn) ?_)
  rintro v9 w1 ⟨hown9, x2⟩
  have z3 := Bel.size x2
  replace hX := Bel.ex hX x2
  replace hown9 := hown9.mono (D' := fun g => w.heap.size ≤ g) (fun g h1 h2 => by omega)
  refine Rg_run rfl (o_assignh (v := v9) rfl) ?_
  refine Rg_nil (W_ret ?_)
  refine ⟨_, res_tmp rfl rfl, ?_⟩
  exact ⟨hown9.mono (fun g h1 h2 => ⟨by omega, by omega⟩), hX⟩

end Go.Proofs.YtncmjgmlnnenhaaGreatDoor
