/- Walks, printed by program: each theorem says what a function of the translation returns. -/
import Derived.Test.YtnhbdlllkmnpfaaDoorWlaw7b
import Derived.Test.YtnhbdlllkmnpfaaDoorWbits
import Derived.Test.YtnhbdlllkmnpfaaDoorPure7n
namespace Go.Proofs.YtnhbdlllkmnpfaaDoor
open Go Go.Lx Go.RowKit
set_option maxRecDepth 100000
set_option linter.unusedVariables false
set_option linter.unusedSimpArgs false
set_option linter.unnecessarySimpa false
theorem el_bv : ElT Tryd.prog 64 30 1 24 (.slice none 0 0) := ⟨Tryd.underlying64, ⟨Tryd.t30, by kernel_rfl, rfl, rfl, rfl⟩, rfl, by decide, by decide⟩
theorem el_set : ElT Tryd.prog 65 68 1 24 (.agg #[.slice none 0 0]) := ⟨Tryd.underlying65, ⟨Tryd.t68, by kernel_rfl, rfl, rfl, rfl⟩, rfl, by decide, by decide⟩
theorem law_PathNests (w : World) (vl : Value) (l : List BV) (hl : Rd encBV 1 (Lt w.heap.size) w vl l) (dl : ∀ z ∈ l, Sl encB 1 (Lt w.heap.size) w z.a z.c z.l) : Ok Tryd.prog 12 #[vl] w fun v w' => v = .bool (true) ∧ Ext False w w' := by
  obtain ⟨al, cl, rfl, hl⟩ := hl; have ml := hl.len
  refine Ok_of_W 110 Tryd.func12 rfl rfl rfl ?_
  have hX : Ext False w w := Bel.refl _ _
  refine W_seq ?_
  refine W_region ?_
  refine Rg_run rfl o_assignc ?_
  refine Rg_nil ?_
  refine W_seq ?_
  refine W_seq ?_
  refine W_region ?_
  refine Rg_enter rfl (o_call0 Tryd.call13) (Ok.mono (awake_ok _) ?_)
  rintro _ w1 ⟨rfl, x2⟩
  have z3 := Bel.size x2
  replace hX := Bel.ex hX x2
  replace dl := (fun z hz => (dl z hz).ext x2)
  replace hl := hl.ext x2
  refine Rg_run rfl (o_not rfl) ?_
  refine Rg_nil ?_
  refine W_cond rfl (fun hc1 => ?_) (fun hc1 => ?_)
  · skip
    refine W_seq ?_
    refine W_region ?_
    refine Rg_run rfl o_assignc ?_
    refine Rg_nil ?_
    refine W_ret ?_
    refine ⟨_, res_tmp rfl rfl, ?_⟩
    refine ⟨congrArg Value.bool ?_, hX⟩
    all_goals (cases hc1)
  · skip
    refine W_skip ?_
    refine W_seq ?_
    refine W_region ?_
    refine Rg_run rfl o_assignc ?_
    refine Rg_nil ?_
    refine W_seq ?_
    refine W_seq ?_
    refine W_region ?_
    refine Rg_run rfl (o_moveh (v := .slice _ _ _) rfl) ?_
    refine Rg_run rfl (o_moveh (v := .slice _ _ _) rfl) ?_
    refine Rg_run rfl (o_llen Tryd.underlying64 rfl) ?_
    refine Rg_run rfl (o_minN (a := l.length) (b := 10) rfl rfl) ?_
    refine Rg_run rfl (o_slto (j := (l.take 10).length) Tryd.underlying64 Tryd.sizeOf30 rfl (congrArg (Value.int .i64) (by rw [List.length_take]; omega)) (by have := hl.le; rw [List.length_take]; omega)) ?_
    have hlt : Sl encBV 1 (Lt w.heap.size) w1 al cl (l.take 10) := hl.take 10
    refine Rg_run rfl (o_llen Tryd.underlying64 rfl) ?_
    refine Rg_run rfl o_movec ?_
    refine Rg_nil ?_
    refine W_block ?_
    refine W_for (α := Nat × Value) [(3, 3), (5, 5), (24, 33)] (fun q => [(24, .int .i64 (q.1 : Int)), (3, q.2)]) (fun q w' => (q.1 ≤ (l.take 10).length) ∧ Bel False (fun g => w1.heap.size ≤ g) w1 w' ∧ (Own encS 1 9 (fun g => w1.heap.size ≤ g) w' q.2 (((l.take 10).take q.1).map mkV))) (fun q => (l.take 10).length - q.1) (0, .slice none 0 0) ⟨rfl, rfl, trivial⟩ ⟨Nat.zero_le _, Bel.refl _ _, Own.nil _ _⟩ ?_
    rintro ⟨k, u⟩ fb6 w5 ⟨hk, hXL4, hown⟩
    dsimp only at *
    have z7 := Bel.size hXL4
    replace hX := Bel.out hX hXL4 (fun g h1 h2 => by first | exact h2 | omega)
    replace dl := fun z hz => (dl z hz).keep hXL4 (fun g h1 h2 h3 => by omega)
    replace hl := hl.keep hXL4 (fun g h1 h2 h3 => by omega)
    replace hlt := hlt.keep hXL4 (fun g h1 h2 h3 => by omega)
    have h12 : (l.take 10).length ≤ 10 := by rw [List.length_take]; omega
    refine W_seq ?_
    refine W_region ?_
    refine Rg_run rfl (o_lss rfl rfl) ?_
    refine Rg_nil ?_
    refine W_seq ?_
    refine W_cond rfl (fun hc2 => ?_) (fun hc2 => ?_)
    · skip
      replace hc2 := of_decide_eq_true hc2
      refine W_skip ?_
      refine W_seq ?_
      refine W_block ?_
      refine W_seq ?_
      refine W_region ?_
      refine Rg_run rfl (o_iaR Tryd.underlying64 Tryd.sizeOf30 hlt rfl rfl (by first | omega | (unfold I64; omega) | (simp; done) | (simp; omega) | (simp at *; omega))) ?_
      refine Rg_run rfl (o_ldR Tryd.isAgg30 hlt rfl rfl (getE bz (by omega)) rfl) ?_
      refine Rg_run rfl (o_assignh (v := .slice _ _ _) rfl) ?_
      refine Rg_nil ?_
      refine W_region ?_
      refine Rg_run rfl (o_moveh (v := u) rfl) ?_
      refine Rg_run rfl (o_moveh (v := .slice _ _ _) rfl) ?_
      refine Rg_enter rfl (o_call1 Tryd.call22 rfl) (Ok.mono (r7make_ok _ _ _ (dl _ (List.mem_of_mem_take (gm (by omega)))).trd) ?_)
      rintro _ w8 ⟨rfl, x9⟩
      have z10 := Bel.size x9
      replace hX := Bel.ex hX x9
      replace hXL4 := Bel.ex hXL4 x9
      replace dl := (fun z hz => (dl z hz).ext x9)
      replace hl := hl.ext x9
      replace hlt := hlt.ext x9
      replace hown := hown.ext x9
      refine Rg_bs (vs := [str _]) ([mkV ((l.take 10).getD k bz)]) rfl encS_ok el_string rfl rfl ⟨rfl, trivial⟩ rfl rfl rfl rfl ?_
      intro a31 w11 x12 hown31
      have z13 := Bel.size x12
      replace hX := Bel.ex hX x12
      replace hXL4 := Bel.ex hXL4 x12
      replace dl := (fun z hz => (dl z hz).ext x12)
      replace hl := hl.ext x12
      replace hlt := hlt.ext x12
      replace hown := hown.ext x12
      replace hown31 := hown31.mono (D' := fun g => w1.heap.size ≤ g) (fun g h1 h2 => by omega)
      refine Rg_app rfl encS_ok el_string rfl rfl hown (hown31.slA encS_ok) rfl (by simp; omega) (fun g h => by omega) ?_
      intro v32 w14 x15 hown
      have z16 := Bel.size x15
      replace hX := Bel.out hX x15 (fun g h1 h2 => by first | exact h2 | omega)
      replace hXL4 := Bel.out hXL4 x15 (fun g h1 h2 => by first | exact h2 | omega)
      replace dl := fun z hz => (dl z hz).keep x15 (fun g h1 h2 h3 => by omega)
      replace hl := hl.keep x15 (fun g h1 h2 h3 => by omega)
      replace hlt := hlt.keep x15 (fun g h1 h2 h3 => by omega)
      refine Rg_run rfl (o_assignh (v := v32) rfl) ?_
      refine Rg_nil ?_
      refine W_region ?_
      refine Rg_run rfl (o_add rfl rfl (by first | omega | (unfold I64; omega) | (simp; done) | (simp; omega) | (simp at *; omega))) ?_
      refine Rg_run rfl (o_moveh (v := .int _ _) rfl) ?_
      refine Rg_nil ?_
      refine ⟨(k + 1, v32), ⟨?_, ?_, trivial⟩, ?_, ⟨?_, hXL4, ?_⟩, ?_⟩
      · first | rfl | (go_num) | (exact congrArg _ (by omega))
      · first | rfl | (go_num) | (exact congrArg _ (by omega))
      · repeat (first | exact off_refl _ _ | exact off_mix | refine off_put rfl ?_ | refine off_putN ?_ | refine off_setL rfl ?_ | refine off_mix' rfl ?_)
      · show k + 1 ≤ (l.take 10).length; omega
      · show Own _ _ _ _ _ _ (((l.take 10).take (k + 1)).map mkV); rw [mapM_succ bz (by omega)]; exact hown
      · show (l.take 10).length - (k + 1) < (l.take 10).length - k; omega
    · skip
      replace hc2 := of_decide_eq_false hc2; rw [List.take_of_length_le (by omega)] at hown; change Own _ _ _ _ _ _ ((l.take 10).map mkV) at hown
      refine W_exit ?_
      refine exAt_hit ?_
      refine W_seq ?_
      refine W_region ?_
      refine Rg_run rfl o_assignc ?_
      refine Rg_nil ?_
      refine W_seq ?_
      refine W_seq ?_
      refine W_region ?_
      obtain ⟨aA, cA, hvA, hsA⟩ := hown.sl encS_ok
      subst hvA
      obtain ⟨n0, hn0⟩ : ∃ n, n = w5.heap.size := ⟨_, rfl⟩
      replace hsA := hsA.mono (F' := fun g => g < n0) (fun g h1 h2 => by omega)
      have h10 : ((l.take 10).map mkV).length ≤ 10 := by rw [List.length_map, List.length_take]; omega
      have hv : ∀ p ∈ ((l.take 10).map mkV), splitOk p = true := fun p hp => by
        obtain ⟨z, _, rfl⟩ := List.mem_map.1 hp
        exact make_ok7 z.l
      clear hown
      generalize ((l.take 10).map mkV) = al at hsA h10 hv ⊢
      refine Rg_run rfl (o_moveh (v := .slice _ _ _) rfl) ?_
      refine Rg_run rfl (o_llen Tryd.underlying35 rfl) ?_
      refine Rg_run rfl o_movec ?_
      refine Rg_nil ?_
      refine W_block ?_
      refine W_for (α := Nat × Value × List SV) [(6, 6), (8, 11), (36, 59)] (fun q => [(36, .int .i64 (q.1 : Int)), (6, q.2.1)]) (fun q w' => (q.1 ≤ al.length ∧ q.2.2.map (·.x) = (al.take q.1).map fun p => setN al p al.length) ∧ Bel False (fun g => n0 ≤ g) w5 w' ∧ (∃ Dq : Nat → Prop, Own encSV 1 68 Dq w' q.2.1 q.2.2 ∧ (∀ g, Dq g → n0 ≤ g) ∧ ∀ z ∈ q.2.2, Sl encU 1 (fun g => ¬ Dq g ∧ n0 ≤ g) w' z.a z.c (wl z.x))) (fun q => al.length - q.1) (0, .slice none 0 0, []) ⟨rfl, rfl, trivial⟩ ⟨⟨Nat.zero_le _, rfl⟩, Bel.refl _ _, ⟨fun g => False, Own.nil _ _, fun g h => h.elim, fun z hz => by simp at hz⟩⟩ ?_
      rintro ⟨k, u, sv⟩ fb19 w18 ⟨⟨hk, hsv⟩, hXL17, ⟨Dq, hsets, hD0, hwd⟩⟩
      dsimp only at *
      have z20 := Bel.size hXL17
      replace hX := Bel.out hX hXL17 (fun g h1 h2 => by first | exact h2 | omega)
      replace dl := fun z hz => (dl z hz).keep hXL17 (fun g h1 h2 h3 => by omega)
      replace hl := hl.keep hXL17 (fun g h1 h2 h3 => by omega)
      replace hlt := hlt.keep hXL17 (fun g h1 h2 h3 => by omega)
      replace hsA := hsA.keep hXL17 (fun g h1 h2 h3 => by omega)
      obtain ⟨n1, hn1⟩ : ∃ n, n = w18.heap.size := ⟨_, rfl⟩
      replace hsets := hsets.mono (D' := fun g => (Dq g ∧ n0 ≤ g) ∧ g < n1) (fun g h1 h2 => ⟨⟨h2, hD0 g h2⟩, by omega⟩)
      replace hwd : ∀ z ∈ sv, Sl encU 1 (fun g => ¬ Dq g ∧ n0 ≤ g ∧ g < n1) w18 z.a z.c (wl z.x) := fun z hz => (hwd z hz).mono (fun g h1 h2 => ⟨h2.1, h2.2, by omega⟩)
      refine W_seq ?_
      refine W_region ?_
      refine Rg_run rfl (o_lss rfl rfl) ?_
      refine Rg_nil ?_
      refine W_seq ?_
      refine W_cond rfl (fun hc3 => ?_) (fun hc3 => ?_)
      · skip
        replace hc3 := of_decide_eq_true hc3
        refine W_skip ?_
        refine W_seq ?_
        refine W_block ?_
        refine W_seq ?_
        refine W_region ?_
        refine Rg_run rfl (o_iaR Tryd.underlying35 Tryd.sizeOf9 hsA rfl rfl (by first | omega | (unfold I64; omega) | (simp; done) | (simp; omega) | (simp at *; omega))) ?_
        refine Rg_run rfl (o_ldR Tryd.isAgg9 hsA rfl rfl (getE [] (by omega)) rfl) ?_
        refine Rg_run rfl (o_assignh (v := str _) rfl) ?_
        refine Rg_nil ?_
        refine W_seq ?_
        refine W_region ?_
        refine Rg_enter rfl (o_call1 Tryd.call49 rfl) (Ok.mono (bof_ok _ _ [] Rd.none (by decide) (by simp)) ?_)
        rintro _ w21 ⟨a40, c40, rfl, hq40, x22⟩
        have z23 := Bel.size x22
        replace hX := Bel.ex hX x22
        replace hXL17 := Bel.ex hXL17 x22
        replace dl := (fun z hz => (dl z hz).ext x22)
        replace hl := hl.ext x22
        replace hlt := hlt.ext x22
        replace hsA := hsA.ext x22
        replace hsets := hsets.ext x22
        replace hwd := (fun z hz => (hwd z hz).ext x22)
        refine Rg_alst rfl rfl Tryd.zeroValue68 rfl Tryd.sizeOf68 (fun _ => rfl) rfl rfl ?_
        intro b9 w24 x25 hge9 hb9
        have hlt9 := hb9.lt
        change Box _ _ _ (encSV _) at hb9
        have z26 := Bel.size x25
        replace hX := Bel.ex hX x25
        replace hXL17 := Bel.ex hXL17 x25
        replace dl := (fun z hz => (dl z hz).ext x25)
        replace hl := hl.ext x25
        replace hlt := hlt.ext x25
        replace hsA := hsA.ext x25
        replace hsets := hsets.ext x25
        replace hwd := (fun z hz => (hwd z hz).ext x25)
        replace hq40 := hq40.ext x25
        refine Rg_nil ?_
        refine W_seq ?_
        refine W_seq ?_
        refine W_region ?_
        refine Rg_run rfl (o_moveh (v := .slice _ _ _) rfl) ?_
        refine Rg_run rfl (o_llen Tryd.underlying35 rfl) ?_
        refine Rg_run rfl o_movec ?_
        refine Rg_nil ?_
        refine W_block ?_
        refine W_for (α := Nat × Option Addr × Nat) [(10, 11), (43, 54)] (fun q => [(43, .int .i64 (q.1 : Int))]) (fun q w' => (q.1 ≤ al.length) ∧ Bel False (fun g => g = b9) w24 w' ∧ (Box w' b9 68 (encSV ⟨q.2.1, q.2.2, setN al (al.getD k []) q.1⟩) ∧ Sl encU 1 (fun g => n1 ≤ g ∧ g ≠ b9) w' q.2.1 q.2.2 (wl (setN al (al.getD k []) q.1)))) (fun q => al.length - q.1) (0, a40, c40) ⟨rfl, trivial⟩ ⟨Nat.zero_le _, Bel.refl _ _, ⟨hb9, hq40.mono (fun g h1 h2 => by omega)⟩⟩ ?_
        rintro ⟨j, ea, ec⟩ fb29 w28 ⟨hj, hXL27, ⟨hb9, hq9⟩⟩
        dsimp only at *
        have z30 := Bel.size hXL27
        replace hX := Bel.out hX hXL27 (fun g h1 h2 => by first | exact h2 | omega)
        replace hXL17 := Bel.out hXL17 hXL27 (fun g h1 h2 => by first | exact h2 | omega)
        replace dl := fun z hz => (dl z hz).keep hXL27 (fun g h1 h2 h3 => by omega)
        replace hl := hl.keep hXL27 (fun g h1 h2 h3 => by omega)
        replace hlt := hlt.keep hXL27 (fun g h1 h2 h3 => by omega)
        replace hsA := hsA.keep hXL27 (fun g h1 h2 h3 => by omega)
        replace hsets := hsets.keepD hXL27 (fun g h1 h2 h3 => by omega)
        replace hwd := fun z hz => (hwd z hz).keep hXL27 (fun g h1 h2 h3 => by first | omega | (rcases h3 with h3 | h3 <;> first | exact h2.1 h3.1.1 | omega))
        refine W_seq ?_
        refine W_region ?_
        refine Rg_run rfl (o_lss rfl rfl) ?_
        refine Rg_nil ?_
        refine W_seq ?_
        refine W_cond rfl (fun hc4 => ?_) (fun hc4 => ?_)
        · skip
          replace hc4 := of_decide_eq_true hc4
          refine W_skip ?_
          refine W_seq ?_
          refine W_block ?_
          refine W_seq ?_
          refine W_region ?_
          refine Rg_run rfl (o_moveh (v := .int _ _) rfl) ?_
          refine Rg_run rfl (o_iaR Tryd.underlying35 Tryd.sizeOf9 hsA rfl rfl (by first | omega | (unfold I64; omega) | (simp; done) | (simp; omega) | (simp at *; omega))) ?_
          refine Rg_run rfl (o_ldR Tryd.isAgg9 hsA rfl rfl (getE [] (by omega)) rfl) ?_
          refine Rg_run rfl (o_assignh (v := .int _ _) rfl) ?_
          refine Rg_run rfl (o_assignh (v := str _) rfl) ?_
          refine Rg_nil ?_
          refine W_seq ?_
          refine W_region ?_
          refine Rg_run rfl (o_moveh (v := str _) rfl) ?_
          refine Rg_run rfl (o_moveh (v := str _) rfl) ?_
          refine Rg_enter rfl (o_call2 Tryd.call16 rfl rfl) (Ok.mono (within_ok (False) (al.getD j []) (al.getD k []) (path_len (hv _ (gm (by omega)))) (path_len (hv _ (gm (by omega)))) _) ?_)
          rintro _ w31 ⟨rfl, x32⟩
          have z33 := Bel.size x32
          replace hX := Bel.ex hX x32
          replace hXL17 := Bel.ex hXL17 x32
          replace hXL27 := Bel.ex hXL27 x32
          replace dl := (fun z hz => (dl z hz).ext x32)
          replace hl := hl.ext x32
          replace hlt := hlt.ext x32
          replace hsA := hsA.ext x32
          replace hsets := hsets.ext x32
          replace hwd := (fun z hz => (hwd z hz).ext x32)
          replace hq9 := hq9.ext x32
          replace hb9 := hb9.ext x32
          refine Rg_nil ?_
          refine W_cond rfl (fun hc5 => ?_) (fun hc5 => ?_)
          · skip
            refine W_region ?_
            refine Rg_run rfl (o_loadS Tryd.isAgg68 Tryd.sizeOf68 rfl hb9.at rfl) ?_
            refine Rg_run rfl (o_moveh (v := .int _ _) rfl) ?_
            refine Rg_enter rfl (o_call2 Tryd.call50 rfl rfl) (Ok.mono (bwith_ok _ ⟨_, _, _⟩ _ hq9 j (by omega)) ?_)
            rintro _ w34 ⟨a53, c53, rfl, hq53, x35⟩
            have z36 := Bel.size x35
            replace hX := Bel.ex hX x35
            replace hXL17 := Bel.ex hXL17 x35
            replace hXL27 := Bel.ex hXL27 x35
            replace dl := (fun z hz => (dl z hz).ext x35)
            replace hl := hl.ext x35
            replace hlt := hlt.ext x35
            replace hsA := hsA.ext x35
            replace hsets := hsets.ext x35
            replace hwd := (fun z hz => (hwd z hz).ext x35)
            replace hq9 := hq9.ext x35
            replace hb9 := hb9.ext x35
            replace hq53 := hq53.mono (F' := fun g => n1 ≤ g ∧ g ≠ b9) (fun g h1 h2 => by rcases h2 with h2 | h2 <;> omega)
            refine Rg_storeW (v := .agg _) rfl Tryd.sizeOf68 rfl rfl hb9 rfl rfl rfl ?_
            intro w37 c38 hb9
            change Box _ _ _ (encSV _) at hb9
            have z39 := Bel.size c38
            replace hX := Bel.out hX c38 (fun g h1 h2 => by first | exact h2 | omega)
            replace hXL17 := Bel.out hXL17 c38 (fun g h1 h2 => by first | exact h2 | omega)
            replace hXL27 := Bel.out hXL27 c38 (fun g h1 h2 => by first | exact h2 | omega)
            replace dl := fun z hz => (dl z hz).keep c38 (fun g h1 h2 h3 => by omega)
            replace hl := hl.keep c38 (fun g h1 h2 h3 => by omega)
            replace hlt := hlt.keep c38 (fun g h1 h2 h3 => by omega)
            replace hsA := hsA.keep c38 (fun g h1 h2 h3 => by omega)
            replace hsets := hsets.keepD c38 (fun g h1 h2 h3 => by omega)
            replace hwd := fun z hz => (hwd z hz).keep c38 (fun g h1 h2 h3 => by first | omega | (rcases h3 with h3 | h3 <;> first | exact h2.1 h3.1.1 | omega))
            replace hq9 := hq9.keep c38 (fun g h1 h2 h3 => by omega)
            replace hq53 := hq53.keep c38 (fun g h1 h2 h3 => by omega)
            refine Rg_nil ?_
            refine W_region ?_
            refine Rg_run rfl (o_add rfl rfl (by first | omega | (unfold I64; omega) | (simp; done) | (simp; omega) | (simp at *; omega))) ?_
            refine Rg_run rfl (o_moveh (v := .int _ _) rfl) ?_
            refine Rg_nil ?_
            refine ⟨(j + 1, a53, c53), ⟨?_, trivial⟩, ?_, ⟨?_, hXL27, ?_⟩, ?_⟩
            · first | rfl | (go_num) | (exact congrArg _ (by omega))
            · repeat (first | exact off_refl _ _ | exact off_mix | refine off_put rfl ?_ | refine off_putN ?_ | refine off_setL rfl ?_ | refine off_mix' rfl ?_)
            · show j + 1 ≤ al.length; omega
            · exact ⟨by show Box _ _ _ (encSV ⟨_, _, setN al _ (j + 1)⟩); rw [setN_yes hc5]; exact hb9, by show Sl _ _ _ _ _ _ (wl (setN al _ (j + 1))); rw [setN_yes hc5]; exact hq53⟩
            · show al.length - (j + 1) < al.length - j; omega
          · skip
            refine W_skip ?_
            refine W_region ?_
            refine Rg_run rfl (o_add rfl rfl (by first | omega | (unfold I64; omega) | (simp; done) | (simp; omega) | (simp at *; omega))) ?_
            refine Rg_run rfl (o_moveh (v := .int _ _) rfl) ?_
            refine Rg_nil ?_
            refine ⟨(j + 1, ea, ec), ⟨?_, trivial⟩, ?_, ⟨?_, hXL27, ?_⟩, ?_⟩
            · first | rfl | (go_num) | (exact congrArg _ (by omega))
            · repeat (first | exact off_refl _ _ | exact off_mix | refine off_put rfl ?_ | refine off_putN ?_ | refine off_setL rfl ?_ | refine off_mix' rfl ?_)
            · show j + 1 ≤ al.length; omega
            · exact ⟨by show Box _ _ _ (encSV ⟨_, _, setN al _ (j + 1)⟩); rw [setN_no hc5]; exact hb9, by show Sl _ _ _ _ _ _ (wl (setN al _ (j + 1))); rw [setN_no hc5]; exact hq9⟩
            · show al.length - (j + 1) < al.length - j; omega
        · skip
          replace hc4 := of_decide_eq_false hc4
          have ej : j = al.length := by omega
          subst ej
          refine W_exit ?_
          refine exAt_hit ?_
          refine W_region ?_
          refine Rg_run rfl (o_moveh (v := u) rfl) ?_
          refine Rg_run rfl (o_loadS Tryd.isAgg68 Tryd.sizeOf68 rfl hb9.at rfl) ?_
          refine Rg_bs (vs := [.agg _]) ([(⟨ea, ec, setN al (al.getD k []) al.length⟩ : SV)]) rfl encSV_ok el_set rfl rfl ⟨rfl, trivial⟩ rfl rfl rfl rfl ?_
          intro a57 w40 x41 hown57
          have z42 := Bel.size x41
          replace hX := Bel.ex hX x41
          replace hXL17 := Bel.ex hXL17 x41
          replace dl := (fun z hz => (dl z hz).ext x41)
          replace hl := hl.ext x41
          replace hlt := hlt.ext x41
          replace hsA := hsA.ext x41
          replace hsets := hsets.ext x41
          replace hwd := (fun z hz => (hwd z hz).ext x41)
          replace hq9 := hq9.ext x41
          replace hb9 := hb9.ext x41
          replace hown57 := hown57.mono (D' := fun g => w1.heap.size ≤ g) (fun g h1 h2 => by omega)
          obtain ⟨n2, hn2⟩ : ∃ n, n = w40.heap.size := ⟨_, rfl⟩
          replace hsets := hsets.mono (D' := fun g => ((Dq g ∧ n0 ≤ g) ∧ g < n1) ∨ n2 ≤ g) (fun g h1 h2 => Or.inl h2)
          replace hq9 := hq9.mono (F' := fun g => n1 ≤ g ∧ g < n2) (fun g h1 h2 => by omega)
          refine Rg_app rfl encSV_ok el_set rfl rfl hsets (hown57.slA encSV_ok) rfl (by have := congrArg List.length hsv; simp at this ⊢; omega) (fun g h => Or.inr (by omega)) ?_
          intro v58 w43 x44 hsets
          have z45 := Bel.size x44
          replace hX := Bel.out hX x44 (fun g h1 h2 => by first | exact h2 | omega)
          replace hXL17 := Bel.out hXL17 x44 (fun g h1 h2 => by first | exact h2 | omega)
          replace dl := fun z hz => (dl z hz).keep x44 (fun g h1 h2 h3 => by omega)
          replace hl := hl.keep x44 (fun g h1 h2 h3 => by omega)
          replace hlt := hlt.keep x44 (fun g h1 h2 h3 => by omega)
          replace hsA := hsA.keep x44 (fun g h1 h2 h3 => by omega)
          replace hwd := fun z hz => (hwd z hz).keep x44 (fun g h1 h2 h3 => by first | omega | (rcases h3 with h3 | h3 <;> first | exact h2.1 h3.1.1 | omega))
          replace hq9 := hq9.keep x44 (fun g h1 h2 h3 => by omega)
          replace hb9 := hb9.keep x44 (fun h => by omega)
          refine Rg_run rfl (o_assignh (v := v58) rfl) ?_
          refine Rg_nil ?_
          refine W_region ?_
          refine Rg_run rfl (o_add rfl rfl (by first | omega | (unfold I64; omega) | (simp; done) | (simp; omega) | (simp at *; omega))) ?_
          refine Rg_run rfl (o_moveh (v := .int _ _) rfl) ?_
          refine Rg_nil ?_
          refine ⟨(k + 1, v58, sv ++ [(⟨ea, ec, setN al (al.getD k []) al.length⟩ : SV)]), ⟨?_, ?_, trivial⟩, ?_, ⟨?_, hXL17, ?_⟩, ?_⟩
          · first | rfl | (go_num) | (exact congrArg _ (by omega))
          · first | rfl | (go_num) | (exact congrArg _ (by omega))
          · repeat (first | exact off_refl _ _ | exact off_mix | refine off_put rfl ?_ | refine off_putN ?_ | refine off_setL rfl ?_ | refine off_mix' rfl ?_)
          · exact ⟨by show k + 1 ≤ al.length; omega, by show (sv ++ [_]).map _ = (al.take (k + 1)).map _; rw [List.map_append, hsv, mapM_succ [] (by omega)]; rfl⟩
          · refine ⟨fun g => ((Dq g ∧ n0 ≤ g) ∧ g < n1) ∨ n2 ≤ g, hsets.mono (fun g h1 h2 => ?_), fun g h => ?_, fun z hz => ?_⟩
            · first | exact h2 | exact h2.1
            · rcases h with h | h
              · exact h.1.2
              · omega
            · rcases List.mem_append.1 hz with hz | hz
              · exact (hwd z hz).mono (fun g h1 h2 => ⟨fun h => by rcases h with h | h; exact h2.1 h.1.1; omega, h2.2.1⟩)
              · have ez : z = (⟨ea, ec, setN al (al.getD k []) al.length⟩ : SV) := by simpa using hz
                subst ez
                exact hq9.mono (fun g h1 h2 => ⟨fun h => by rcases h with h | h <;> omega, by omega⟩)
          · show al.length - (k + 1) < al.length - k; omega
      · skip
        replace hc3 := of_decide_eq_false hc3; rw [List.take_of_length_le (by omega)] at hsv
        have hlen : sv.length = al.length := by have := congrArg List.length hsv; simpa using this
        refine W_exit ?_
        refine exAt_hit ?_
        refine W_seq ?_
        refine W_seq ?_
        refine W_region ?_
        obtain ⟨aS, cS, hvS, hsS⟩ := hsets.sl encSV_ok
        subst hvS
        refine Rg_run rfl (o_moveh (v := .slice _ _ _) rfl) ?_
        refine Rg_run rfl (o_llen Tryd.underlying65 rfl) ?_
        refine Rg_run rfl o_movec ?_
        refine Rg_nil ?_
        refine W_block ?_
        refine W_for (α := Nat) [(2, 2), (12, 15), (62, 109)] (fun k2 => [(62, .int .i64 (k2 : Int))]) (fun k2 w' => (k2 ≤ sv.length) ∧ Ext False w18 w') (fun k2 => sv.length - k2) 0 ⟨rfl, trivial⟩ ⟨Nat.zero_le _, Bel.refl _ _⟩ ?_
        rintro k2 fb48 w47 ⟨hk2, hXL46⟩
        have z49 := Bel.size hXL46
        replace hX := Bel.ex hX hXL46
        replace dl := (fun z hz => (dl z hz).ext hXL46)
        replace hl := hl.ext hXL46
        replace hlt := hlt.ext hXL46
        replace hsA := hsA.ext hXL46
        replace hwd := (fun z hz => (hwd z hz).ext hXL46)
        replace hsS := hsS.ext hXL46
        refine W_seq ?_
        refine W_region ?_
        refine Rg_run rfl (o_lss rfl rfl) ?_
        refine Rg_nil ?_
        refine W_seq ?_
        refine W_cond rfl (fun hc6 => ?_) (fun hc6 => ?_)
        · skip
          replace hc6 := of_decide_eq_true hc6
          refine W_skip ?_
          refine W_seq ?_
          refine W_block ?_
          refine W_seq ?_
          refine W_region ?_
          have hwi := hwd _ (gm (z := sz) (show k2 < sv.length by omega))
          have hxi : (sv.getD k2 sz).x = setN al (al.getD k2 []) al.length := by rw [svx_get hsv (by omega), map_get [] 0 (by omega)]
          refine Rg_run rfl (o_moveh (v := .int _ _) rfl) ?_
          refine Rg_run rfl (o_iaR Tryd.underlying65 Tryd.sizeOf68 hsS rfl rfl (by first | omega | (unfold I64; omega) | (simp; done) | (simp; omega) | (simp at *; omega))) ?_
          refine Rg_run rfl (o_ldRS Tryd.isAgg68 Tryd.sizeOf68 hsS rfl (getE sz (by omega))) ?_
          refine Rg_newB rfl (o_alloc Tryd.zeroValue68) ?_
          intro b13 w50 x51 hge13 hb13
          have hlt13 := hb13.lt
          change Box _ _ _ ([.slice _ _ _]) at hb13
          have z52 := Bel.size x51
          replace hX := Bel.ex hX x51
          replace hXL46 := Bel.ex hXL46 x51
          replace dl := (fun z hz => (dl z hz).ext x51)
          replace hl := hl.ext x51
          replace hlt := hlt.ext x51
          replace hsA := hsA.ext x51
          replace hwd := (fun z hz => (hwd z hz).ext x51)
          replace hsS := hsS.ext x51
          replace hwi := hwi.ext x51
          refine Rg_run rfl (o_assignh (v := .int _ _) rfl) ?_
          refine Rg_storeW (v := .agg _) rfl Tryd.sizeOf68 rfl rfl hb13 rfl rfl rfl ?_
          intro w53 c54 hb13
          change Box _ _ _ (encSV _) at hb13
          have z55 := Bel.size c54
          replace hX := Bel.out hX c54 (fun g h1 h2 => by first | exact h2 | omega)
          replace hXL46 := Bel.out hXL46 c54 (fun g h1 h2 => by first | exact h2 | omega)
          replace dl := fun z hz => (dl z hz).keep c54 (fun g h1 h2 h3 => by omega)
          replace hl := hl.keep c54 (fun g h1 h2 h3 => by omega)
          replace hlt := hlt.keep c54 (fun g h1 h2 h3 => by omega)
          replace hsA := hsA.keep c54 (fun g h1 h2 h3 => by omega)
          replace hwd := fun z hz => (hwd z hz).keep c54 (fun g h1 h2 h3 => by first | omega | (rcases h3 with h3 | h3 <;> first | exact h2.1 h3.1.1 | omega))
          replace hsS := hsS.keep c54 (fun g h1 h2 h3 => by omega)
          replace hwi := hwi.keep c54 (fun g h1 h2 h3 => by omega)
          refine Rg_nil ?_
          refine W_seq ?_
          refine W_seq ?_
          refine W_region ?_
          refine Rg_run rfl (o_loadS Tryd.isAgg68 Tryd.sizeOf68 rfl hb13.at rfl) ?_
          refine Rg_run rfl (o_moveh (v := .int _ _) rfl) ?_
          refine Rg_enter rfl (o_call2 Tryd.call51 rfl rfl) (Ok.mono (bhas_ok _ (sv.getD k2 sz) _ hwi _ (by unfold I64; omega)) ?_)
          rintro _ w56 ⟨rfl, x57⟩
          have z58 := Bel.size x57
          replace hX := Bel.ex hX x57
          replace hXL46 := Bel.ex hXL46 x57
          replace dl := (fun z hz => (dl z hz).ext x57)
          replace hl := hl.ext x57
          replace hlt := hlt.ext x57
          replace hsA := hsA.ext x57
          replace hwd := (fun z hz => (hwd z hz).ext x57)
          replace hsS := hsS.ext x57
          replace hwi := hwi.ext x57
          replace hb13 := hb13.ext x57
          refine Rg_run rfl (o_not rfl) ?_
          refine Rg_nil ?_
          refine W_cond_false (congrArg Value.bool (by rw [hasW_nat, hxi, nest_own h10 hv (by omega)]; rfl)) ?_
          refine W_skip ?_
          refine W_seq ?_
          refine W_region ?_
          refine Rg_run rfl (o_moveh (v := .slice _ _ _) rfl) ?_
          refine Rg_run rfl (o_llen Tryd.underlying65 rfl) ?_
          refine Rg_run rfl o_movec ?_
          refine Rg_nil ?_
          refine W_block ?_
          refine W_for (α := Nat) [(2, 2), (14, 15), (73, 108)] (fun k3 => [(73, .int .i64 (k3 : Int))]) (fun k3 w' => (k3 ≤ sv.length) ∧ Ext False w56 w') (fun k3 => sv.length - k3) 0 ⟨rfl, trivial⟩ ⟨Nat.zero_le _, Bel.refl _ _⟩ ?_
          rintro k3 fb61 w60 ⟨hk3, hXL59⟩
          have z62 := Bel.size hXL59
          replace hX := Bel.ex hX hXL59
          replace hXL46 := Bel.ex hXL46 hXL59
          replace dl := (fun z hz => (dl z hz).ext hXL59)
          replace hl := hl.ext hXL59
          replace hlt := hlt.ext hXL59
          replace hsA := hsA.ext hXL59
          replace hwd := (fun z hz => (hwd z hz).ext hXL59)
          replace hsS := hsS.ext hXL59
          replace hwi := hwi.ext hXL59
          replace hb13 := hb13.ext hXL59
          refine W_seq ?_
          refine W_region ?_
          refine Rg_run rfl (o_lss rfl rfl) ?_
          refine Rg_nil ?_
          refine W_seq ?_
          refine W_cond rfl (fun hc8 => ?_) (fun hc8 => ?_)
          · skip
            replace hc8 := of_decide_eq_true hc8
            refine W_skip ?_
            refine W_seq ?_
            refine W_block ?_
            refine W_seq ?_
            refine W_region ?_
            have hwj := hwd _ (gm (z := sz) (show k3 < sv.length by omega))
            have hxj : (sv.getD k3 sz).x = setN al (al.getD k3 []) al.length := by rw [svx_get hsv (by omega), map_get [] 0 (by omega)]
            refine Rg_run rfl (o_moveh (v := .int _ _) rfl) ?_
            refine Rg_run rfl (o_iaR Tryd.underlying65 Tryd.sizeOf68 hsS rfl rfl (by first | omega | (unfold I64; omega) | (simp; done) | (simp; omega) | (simp at *; omega))) ?_
            refine Rg_run rfl (o_ldRS Tryd.isAgg68 Tryd.sizeOf68 hsS rfl (getE sz (by omega))) ?_
            refine Rg_newB rfl (o_alloc Tryd.zeroValue68) ?_
            intro b15 w63 x64 hge15 hb15
            have hlt15 := hb15.lt
            change Box _ _ _ ([.slice _ _ _]) at hb15
            have z65 := Bel.size x64
            replace hX := Bel.ex hX x64
            replace hXL46 := Bel.ex hXL46 x64
            replace hXL59 := Bel.ex hXL59 x64
            replace dl := (fun z hz => (dl z hz).ext x64)
            replace hl := hl.ext x64
            replace hlt := hlt.ext x64
            replace hsA := hsA.ext x64
            replace hwd := (fun z hz => (hwd z hz).ext x64)
            replace hsS := hsS.ext x64
            replace hwi := hwi.ext x64
            replace hb13 := hb13.ext x64
            replace hwj := hwj.ext x64
            refine Rg_run rfl (o_assignh (v := .int _ _) rfl) ?_
            refine Rg_storeW (v := .agg _) rfl Tryd.sizeOf68 rfl rfl hb15 rfl rfl rfl ?_
            intro w66 c67 hb15
            change Box _ _ _ (encSV _) at hb15
            have z68 := Bel.size c67
            replace hX := Bel.out hX c67 (fun g h1 h2 => by first | exact h2 | omega)
            replace hXL46 := Bel.out hXL46 c67 (fun g h1 h2 => by first | exact h2 | omega)
            replace hXL59 := Bel.out hXL59 c67 (fun g h1 h2 => by first | exact h2 | omega)
            replace dl := fun z hz => (dl z hz).keep c67 (fun g h1 h2 h3 => by omega)
            replace hl := hl.keep c67 (fun g h1 h2 h3 => by omega)
            replace hlt := hlt.keep c67 (fun g h1 h2 h3 => by omega)
            replace hsA := hsA.keep c67 (fun g h1 h2 h3 => by omega)
            replace hwd := fun z hz => (hwd z hz).keep c67 (fun g h1 h2 h3 => by first | omega | (rcases h3 with h3 | h3 <;> first | exact h2.1 h3.1.1 | omega))
            replace hsS := hsS.keep c67 (fun g h1 h2 h3 => by omega)
            replace hwi := hwi.keep c67 (fun g h1 h2 h3 => by omega)
            replace hb13 := hb13.keep c67 (fun h => by omega)
            replace hwj := hwj.keep c67 (fun g h1 h2 h3 => by omega)
            refine Rg_nil ?_
            refine W_seq ?_
            apply W_draw (β := False) [peq _, peq _, peq _, peq _, peq _, peq _, peq _, peq _, peq _, peq _, peq _, peq _, peq _, peq _, peq _, peq _, peq _, peq _, peq _, peq _, peq _, peq _, peq _, peq _, peq _, peq _, peq _, peq _, peq _, peq _] 30 mixed (by kernel_rfl) rfl ⟨peq_stable _, peq_stable _, peq_stable _, peq_stable _, peq_stable _, peq_stable _, peq_stable _, peq_stable _, peq_stable _, peq_stable _, peq_stable _, peq_stable _, peq_stable _, peq_stable _, peq_stable _, peq_stable _, peq_stable _, peq_stable _, peq_stable _, peq_stable _, peq_stable _, peq_stable _, peq_stable _, peq_stable _, peq_stable _, peq_stable _, peq_stable _, peq_stable _, peq_stable _, peq_stable _, trivial⟩ ?ob30 ?fin30
            case ob30 =>
              refine OblL_cons (fun w69 x70 => ?_) ?_
              · skip
                have dl := (fun z hz => (dl z hz).ext x70)
                have hl := hl.ext x70
                have hlt := hlt.ext x70
                have hsA := hsA.ext x70
                have hwd := (fun z hz => (hwd z hz).ext x70)
                have hsS := hsS.ext x70
                have hwi := hwi.ext x70
                have hb13 := hb13.ext x70
                have hwj := hwj.ext x70
                have hb15 := hb15.ext x70
                refine bindP_nil ?_
                exact OpS_v rfl (o_loadS Tryd.isAgg68 Tryd.sizeOf68 rfl hb13.at rfl)
              refine OblL_cons (fun w71 x72 => ?_) ?_
              · skip
                have dl := (fun z hz => (dl z hz).ext x72)
                have hl := hl.ext x72
                have hlt := hlt.ext x72
                have hsA := hsA.ext x72
                have hwd := (fun z hz => (hwd z hz).ext x72)
                have hsS := hsS.ext x72
                have hwi := hwi.ext x72
                have hb13 := hb13.ext x72
                have hwj := hwj.ext x72
                have hb15 := hb15.ext x72
                refine bindP_nil ?_
                exact OpS_v rfl (o_loadS Tryd.isAgg68 Tryd.sizeOf68 rfl hb15.at rfl)
              refine OblL_cons (fun w73 x74 => ?_) ?_
              · skip
                have dl := (fun z hz => (dl z hz).ext x74)
                have hl := hl.ext x74
                have hlt := hlt.ext x74
                have hsA := hsA.ext x74
                have hwd := (fun z hz => (hwd z hz).ext x74)
                have hsS := hsS.ext x74
                have hwi := hwi.ext x74
                have hb13 := hb13.ext x74
                have hwj := hwj.ext x74
                have hb15 := hb15.ext x74
                refine bindP_eq ?_
                refine bindP_eq ?_
                refine bindP_nil ?_
                exact OpS_call rfl (o_call2 Tryd.call52 rfl rfl) (bmeets_ok _ (sv.getD k2 sz) _ hwi (sv.getD k3 sz) _ hwj)
              refine OblL_cons (fun w75 x76 => ?_) ?_
              · skip
                have dl := (fun z hz => (dl z hz).ext x76)
                have hl := hl.ext x76
                have hlt := hlt.ext x76
                have hsA := hsA.ext x76
                have hwd := (fun z hz => (hwd z hz).ext x76)
                have hsS := hsS.ext x76
                have hwi := hwi.ext x76
                have hb13 := hb13.ext x76
                have hwj := hwj.ext x76
                have hb15 := hb15.ext x76
                refine bindP_eq ?_
                refine bindP_eq ?_
                refine bindP_nil ?_
                exact OpS_v rfl (o_moveh (v := .bool _) rfl)
              refine OblL_cons (fun w77 x78 => ?_) ?_
              · skip
                have dl := (fun z hz => (dl z hz).ext x78)
                have hl := hl.ext x78
                have hlt := hlt.ext x78
                have hsA := hsA.ext x78
                have hwd := (fun z hz => (hwd z hz).ext x78)
                have hsS := hsS.ext x78
                have hwi := hwi.ext x78
                have hb13 := hb13.ext x78
                have hwj := hwj.ext x78
                have hb15 := hb15.ext x78
                refine bindP_eq ?_
                refine bindP_nil ?_
                exact OpS_may 3 81 rfl rfl (fun hg => (o_loadS Tryd.isAgg68 Tryd.sizeOf68 rfl hb13.at rfl))
              refine OblL_cons (fun w79 x80 => ?_) ?_
              · skip
                have dl := (fun z hz => (dl z hz).ext x80)
                have hl := hl.ext x80
                have hlt := hlt.ext x80
                have hsA := hsA.ext x80
                have hwd := (fun z hz => (hwd z hz).ext x80)
                have hsS := hsS.ext x80
                have hwi := hwi.ext x80
                have hb13 := hb13.ext x80
                have hwj := hwj.ext x80
                have hb15 := hb15.ext x80
                refine bindP_eq ?_
                refine bindP_nil ?_
                exact OpS_may 3 81 rfl rfl (fun hg => (o_loadS Tryd.isAgg68 Tryd.sizeOf68 rfl hb15.at rfl))
              refine OblL_cons (fun w81 x82 => ?_) ?_
              · skip
                have dl := (fun z hz => (dl z hz).ext x82)
                have hl := hl.ext x82
                have hlt := hlt.ext x82
                have hsA := hsA.ext x82
                have hwd := (fun z hz => (hwd z hz).ext x82)
                have hsS := hsS.ext x82
                have hwi := hwi.ext x82
                have hb13 := hb13.ext x82
                have hwj := hwj.ext x82
                have hb15 := hb15.ext x82
                refine bindP_eq ?_
                refine bindP_eq ?_
                refine bindP_eq ?_
                refine bindP_eq ?_
                refine bindP_nil ?_
                exact OpS_mayCall 3 81 rfl rfl (fun hg => ⟨(o_call2 Tryd.call53 (gsel (u := undef) hg) (gsel (u := undef) hg)), bwithin_ok _ (sv.getD k2 sz) _ hwi (sv.getD k3 sz) _ hwj⟩)
              refine OblL_cons (fun w83 x84 => ?_) ?_
              · skip
                have dl := (fun z hz => (dl z hz).ext x84)
                have hl := hl.ext x84
                have hlt := hlt.ext x84
                have hsA := hsA.ext x84
                have hwd := (fun z hz => (hwd z hz).ext x84)
                have hsS := hsS.ext x84
                have hwi := hwi.ext x84
                have hb13 := hb13.ext x84
                have hwj := hwj.ext x84
                have hb15 := hb15.ext x84
                refine bindP_eq ?_
                refine bindP_eq ?_
                refine bindP_nil ?_
                exact OpS_may 3 81 rfl rfl (fun hg => (o_not (gsel (u := undef) hg)))
              refine OblL_cons (fun w85 x86 => ?_) ?_
              · skip
                have dl := (fun z hz => (dl z hz).ext x86)
                have hl := hl.ext x86
                have hlt := hlt.ext x86
                have hsA := hsA.ext x86
                have hwd := (fun z hz => (hwd z hz).ext x86)
                have hsS := hsS.ext x86
                have hwi := hwi.ext x86
                have hb13 := hb13.ext x86
                have hwj := hwj.ext x86
                have hb15 := hb15.ext x86
                refine bindP_eq ?_
                refine bindP_eq ?_
                refine bindP_nil ?_
                exact OpS_v rfl (o_and (u := undef) rfl rfl)
              refine OblL_cons (fun w87 x88 => ?_) ?_
              · skip
                have dl := (fun z hz => (dl z hz).ext x88)
                have hl := hl.ext x88
                have hlt := hlt.ext x88
                have hsA := hsA.ext x88
                have hwd := (fun z hz => (hwd z hz).ext x88)
                have hsS := hsS.ext x88
                have hwi := hwi.ext x88
                have hb13 := hb13.ext x88
                have hwj := hwj.ext x88
                have hb15 := hb15.ext x88
                refine bindP_eq ?_
                refine bindP_eq ?_
                refine bindP_nil ?_
                exact OpS_v rfl (o_moveh (v := .bool _) rfl)
              refine OblL_cons (fun w89 x90 => ?_) ?_
              · skip
                have dl := (fun z hz => (dl z hz).ext x90)
                have hl := hl.ext x90
                have hlt := hlt.ext x90
                have hsA := hsA.ext x90
                have hwd := (fun z hz => (hwd z hz).ext x90)
                have hsS := hsS.ext x90
                have hwi := hwi.ext x90
                have hb13 := hb13.ext x90
                have hwj := hwj.ext x90
                have hb15 := hb15.ext x90
                refine bindP_eq ?_
                refine bindP_nil ?_
                exact OpS_may 9 87 rfl rfl (fun hg => (o_loadS Tryd.isAgg68 Tryd.sizeOf68 rfl hb15.at rfl))
              refine OblL_cons (fun w91 x92 => ?_) ?_
              · skip
                have dl := (fun z hz => (dl z hz).ext x92)
                have hl := hl.ext x92
                have hlt := hlt.ext x92
                have hsA := hsA.ext x92
                have hwd := (fun z hz => (hwd z hz).ext x92)
                have hsS := hsS.ext x92
                have hwi := hwi.ext x92
                have hb13 := hb13.ext x92
                have hwj := hwj.ext x92
                have hb15 := hb15.ext x92
                refine bindP_eq ?_
                refine bindP_nil ?_
                exact OpS_may 9 87 rfl rfl (fun hg => (o_loadS Tryd.isAgg68 Tryd.sizeOf68 rfl hb13.at rfl))
              refine OblL_cons (fun w93 x94 => ?_) ?_
              · skip
                have dl := (fun z hz => (dl z hz).ext x94)
                have hl := hl.ext x94
                have hlt := hlt.ext x94
                have hsA := hsA.ext x94
                have hwd := (fun z hz => (hwd z hz).ext x94)
                have hsS := hsS.ext x94
                have hwi := hwi.ext x94
                have hb13 := hb13.ext x94
                have hwj := hwj.ext x94
                have hb15 := hb15.ext x94
                refine bindP_eq ?_
                refine bindP_eq ?_
                refine bindP_eq ?_
                refine bindP_eq ?_
                refine bindP_nil ?_
                exact OpS_mayCall 9 87 rfl rfl (fun hg => ⟨(o_call2 Tryd.call53 (gsel (u := undef) hg) (gsel (u := undef) hg)), bwithin_ok _ (sv.getD k3 sz) _ hwj (sv.getD k2 sz) _ hwi⟩)
              refine OblL_cons (fun w95 x96 => ?_) ?_
              · skip
                have dl := (fun z hz => (dl z hz).ext x96)
                have hl := hl.ext x96
                have hlt := hlt.ext x96
                have hsA := hsA.ext x96
                have hwd := (fun z hz => (hwd z hz).ext x96)
                have hsS := hsS.ext x96
                have hwi := hwi.ext x96
                have hb13 := hb13.ext x96
                have hwj := hwj.ext x96
                have hb15 := hb15.ext x96
                refine bindP_eq ?_
                refine bindP_eq ?_
                refine bindP_nil ?_
                exact OpS_may 9 87 rfl rfl (fun hg => (o_not (gsel (u := undef) hg)))
              refine OblL_cons (fun w97 x98 => ?_) ?_
              · skip
                have dl := (fun z hz => (dl z hz).ext x98)
                have hl := hl.ext x98
                have hlt := hlt.ext x98
                have hsA := hsA.ext x98
                have hwd := (fun z hz => (hwd z hz).ext x98)
                have hsS := hsS.ext x98
                have hwi := hwi.ext x98
                have hb13 := hb13.ext x98
                have hwj := hwj.ext x98
                have hb15 := hb15.ext x98
                refine bindP_eq ?_
                refine bindP_eq ?_
                refine bindP_nil ?_
                exact OpS_v rfl (o_and (u := undef) rfl rfl)
              refine OblL_cons (fun w99 x100 => ?_) ?_
              · skip
                have dl := (fun z hz => (dl z hz).ext x100)
                have hl := hl.ext x100
                have hlt := hlt.ext x100
                have hsA := hsA.ext x100
                have hwd := (fun z hz => (hwd z hz).ext x100)
                have hsS := hsS.ext x100
                have hwi := hwi.ext x100
                have hb13 := hb13.ext x100
                have hwj := hwj.ext x100
                have hb15 := hb15.ext x100
                refine bindP_eq ?_
                refine bindP_eq ?_
                refine bindP_nil ?_
                exact OpS_v rfl (o_moveh (v := .bool _) rfl)
              refine OblL_cons (fun w101 x102 => ?_) ?_
              · skip
                have dl := (fun z hz => (dl z hz).ext x102)
                have hl := hl.ext x102
                have hlt := hlt.ext x102
                have hsA := hsA.ext x102
                have hwd := (fun z hz => (hwd z hz).ext x102)
                have hsS := hsS.ext x102
                have hwi := hwi.ext x102
                have hb13 := hb13.ext x102
                have hwj := hwj.ext x102
                have hb15 := hb15.ext x102
                refine bindP_eq ?_
                refine bindP_nil ?_
                exact OpS_may 15 93 rfl rfl (fun hg => (o_loadS Tryd.isAgg68 Tryd.sizeOf68 rfl hb13.at rfl))
              refine OblL_cons (fun w103 x104 => ?_) ?_
              · skip
                have dl := (fun z hz => (dl z hz).ext x104)
                have hl := hl.ext x104
                have hlt := hlt.ext x104
                have hsA := hsA.ext x104
                have hwd := (fun z hz => (hwd z hz).ext x104)
                have hsS := hsS.ext x104
                have hwi := hwi.ext x104
                have hb13 := hb13.ext x104
                have hwj := hwj.ext x104
                have hb15 := hb15.ext x104
                refine bindP_eq ?_
                refine bindP_nil ?_
                exact OpS_may 15 93 rfl rfl (fun hg => (o_loadS Tryd.isAgg68 Tryd.sizeOf68 rfl hb15.at rfl))
              refine OblL_cons (fun w105 x106 => ?_) ?_
              · skip
                have dl := (fun z hz => (dl z hz).ext x106)
                have hl := hl.ext x106
                have hlt := hlt.ext x106
                have hsA := hsA.ext x106
                have hwd := (fun z hz => (hwd z hz).ext x106)
                have hsS := hsS.ext x106
                have hwi := hwi.ext x106
                have hb13 := hb13.ext x106
                have hwj := hwj.ext x106
                have hb15 := hb15.ext x106
                refine bindP_eq ?_
                refine bindP_eq ?_
                refine bindP_eq ?_
                refine bindP_eq ?_
                refine bindP_nil ?_
                exact OpS_mayCall 15 93 rfl rfl (fun hg => ⟨(o_call2 Tryd.call53 (gsel (u := undef) hg) (gsel (u := undef) hg)), bwithin_ok _ (sv.getD k2 sz) _ hwi (sv.getD k3 sz) _ hwj⟩)
              refine OblL_cons (fun w107 x108 => ?_) ?_
              · skip
                have dl := (fun z hz => (dl z hz).ext x108)
                have hl := hl.ext x108
                have hlt := hlt.ext x108
                have hsA := hsA.ext x108
                have hwd := (fun z hz => (hwd z hz).ext x108)
                have hsS := hsS.ext x108
                have hwi := hwi.ext x108
                have hb13 := hb13.ext x108
                have hwj := hwj.ext x108
                have hb15 := hb15.ext x108
                refine bindP_eq ?_
                refine bindP_nil ?_
                exact OpS_may 15 93 rfl rfl (fun hg => (o_moveh (v := .slice _ _ _) rfl))
              refine OblL_cons (fun w109 x110 => ?_) ?_
              · skip
                have dl := (fun z hz => (dl z hz).ext x110)
                have hl := hl.ext x110
                have hlt := hlt.ext x110
                have hsA := hsA.ext x110
                have hwd := (fun z hz => (hwd z hz).ext x110)
                have hsS := hsS.ext x110
                have hwi := hwi.ext x110
                have hb13 := hb13.ext x110
                have hwj := hwj.ext x110
                have hb15 := hb15.ext x110
                refine bindP_eq ?_
                refine bindP_nil ?_
                exact OpS_may 15 93 rfl rfl (fun hg => (o_moveh (v := .int _ _) rfl))
              refine OblL_cons (fun w111 x112 => ?_) ?_
              · skip
                have dl := (fun z hz => (dl z hz).ext x112)
                have hl := hl.ext x112
                have hlt := hlt.ext x112
                have hsA := hsA.ext x112
                have hwd := (fun z hz => (hwd z hz).ext x112)
                have hsS := hsS.ext x112
                have hwi := hwi.ext x112
                have hb13 := hb13.ext x112
                have hwj := hwj.ext x112
                have hb15 := hb15.ext x112
                refine bindP_eq ?_
                refine bindP_eq ?_
                refine bindP_eq ?_
                refine bindP_nil ?_
                exact OpS_may 15 93 rfl rfl (fun hg => (o_iaR Tryd.underlying35 Tryd.sizeOf9 hsA (gsel (u := undef) hg) (gsel (u := undef) hg) (by first | omega | (unfold I64; omega) | (simp; done) | (simp; omega) | (simp at *; omega))))
              refine OblL_cons (fun w113 x114 => ?_) ?_
              · skip
                have dl := (fun z hz => (dl z hz).ext x114)
                have hl := hl.ext x114
                have hlt := hlt.ext x114
                have hsA := hsA.ext x114
                have hwd := (fun z hz => (hwd z hz).ext x114)
                have hsS := hsS.ext x114
                have hwi := hwi.ext x114
                have hb13 := hb13.ext x114
                have hwj := hwj.ext x114
                have hb15 := hb15.ext x114
                refine bindP_eq ?_
                refine bindP_eq ?_
                refine bindP_nil ?_
                exact OpS_may 15 93 rfl rfl (fun hg => (o_ldR Tryd.isAgg9 hsA rfl (gsel (u := undef) hg) (getE [] (by omega)) rfl))
              refine OblL_cons (fun w115 x116 => ?_) ?_
              · skip
                have dl := (fun z hz => (dl z hz).ext x116)
                have hl := hl.ext x116
                have hlt := hlt.ext x116
                have hsA := hsA.ext x116
                have hwd := (fun z hz => (hwd z hz).ext x116)
                have hsS := hsS.ext x116
                have hwi := hwi.ext x116
                have hb13 := hb13.ext x116
                have hwj := hwj.ext x116
                have hb15 := hb15.ext x116
                refine bindP_eq ?_
                refine bindP_nil ?_
                exact OpS_may 15 93 rfl rfl (fun hg => (o_moveh (v := .slice _ _ _) rfl))
              refine OblL_cons (fun w117 x118 => ?_) ?_
              · skip
                have dl := (fun z hz => (dl z hz).ext x118)
                have hl := hl.ext x118
                have hlt := hlt.ext x118
                have hsA := hsA.ext x118
                have hwd := (fun z hz => (hwd z hz).ext x118)
                have hsS := hsS.ext x118
                have hwi := hwi.ext x118
                have hb13 := hb13.ext x118
                have hwj := hwj.ext x118
                have hb15 := hb15.ext x118
                refine bindP_eq ?_
                refine bindP_nil ?_
                exact OpS_may 15 93 rfl rfl (fun hg => (o_moveh (v := .int _ _) rfl))
              refine OblL_cons (fun w119 x120 => ?_) ?_
              · skip
                have dl := (fun z hz => (dl z hz).ext x120)
                have hl := hl.ext x120
                have hlt := hlt.ext x120
                have hsA := hsA.ext x120
                have hwd := (fun z hz => (hwd z hz).ext x120)
                have hsS := hsS.ext x120
                have hwi := hwi.ext x120
                have hb13 := hb13.ext x120
                have hwj := hwj.ext x120
                have hb15 := hb15.ext x120
                refine bindP_eq ?_
                refine bindP_eq ?_
                refine bindP_eq ?_
                refine bindP_nil ?_
                exact OpS_may 15 93 rfl rfl (fun hg => (o_iaR Tryd.underlying35 Tryd.sizeOf9 hsA (gsel (u := undef) hg) (gsel (u := undef) hg) (by first | omega | (unfold I64; omega) | (simp; done) | (simp; omega) | (simp at *; omega))))
              refine OblL_cons (fun w121 x122 => ?_) ?_
              · skip
                have dl := (fun z hz => (dl z hz).ext x122)
                have hl := hl.ext x122
                have hlt := hlt.ext x122
                have hsA := hsA.ext x122
                have hwd := (fun z hz => (hwd z hz).ext x122)
                have hsS := hsS.ext x122
                have hwi := hwi.ext x122
                have hb13 := hb13.ext x122
                have hwj := hwj.ext x122
                have hb15 := hb15.ext x122
                refine bindP_eq ?_
                refine bindP_eq ?_
                refine bindP_nil ?_
                exact OpS_may 15 93 rfl rfl (fun hg => (o_ldR Tryd.isAgg9 hsA rfl (gsel (u := undef) hg) (getE [] (by omega)) rfl))
              refine OblL_cons (fun w123 x124 => ?_) ?_
              · skip
                have dl := (fun z hz => (dl z hz).ext x124)
                have hl := hl.ext x124
                have hlt := hlt.ext x124
                have hsA := hsA.ext x124
                have hwd := (fun z hz => (hwd z hz).ext x124)
                have hsS := hsS.ext x124
                have hwi := hwi.ext x124
                have hb13 := hb13.ext x124
                have hwj := hwj.ext x124
                have hb15 := hb15.ext x124
                refine bindP_eq ?_
                refine bindP_eq ?_
                refine bindP_eq ?_
                refine bindP_eq ?_
                refine bindP_nil ?_
                exact OpS_mayCall 15 93 rfl rfl (fun hg => ⟨(o_call2 Tryd.call16 (gsel (u := undef) hg) (gsel (u := undef) hg)), within_ok (False) (al.getD k2 []) (al.getD k3 []) (path_len (hv _ (gm (by omega)))) (path_len (hv _ (gm (by omega)))) _⟩)
              refine OblL_cons (fun w125 x126 => ?_) ?_
              · skip
                have dl := (fun z hz => (dl z hz).ext x126)
                have hl := hl.ext x126
                have hlt := hlt.ext x126
                have hsA := hsA.ext x126
                have hwd := (fun z hz => (hwd z hz).ext x126)
                have hsS := hsS.ext x126
                have hwi := hwi.ext x126
                have hb13 := hb13.ext x126
                have hwj := hwj.ext x126
                have hb15 := hb15.ext x126
                refine bindP_eq ?_
                refine bindP_eq ?_
                refine bindP_eq ?_
                refine bindP_nil ?_
                exact OpS_may 15 93 rfl rfl (fun hg => (o_bneq Tryd.underlying4 (gsel (u := undef) hg) (gsel (u := undef) hg)))
              refine OblL_cons (fun w127 x128 => ?_) ?_
              · skip
                have dl := (fun z hz => (dl z hz).ext x128)
                have hl := hl.ext x128
                have hlt := hlt.ext x128
                have hsA := hsA.ext x128
                have hwd := (fun z hz => (hwd z hz).ext x128)
                have hsS := hsS.ext x128
                have hwi := hwi.ext x128
                have hb13 := hb13.ext x128
                have hwj := hwj.ext x128
                have hb15 := hb15.ext x128
                refine bindP_eq ?_
                refine bindP_eq ?_
                refine bindP_nil ?_
                exact OpS_v rfl (o_or (u := undef) rfl rfl)
              exact OblL_nil
            case fin30 =>
              intro w129 x130
              have z131 := Bel.size x130
              replace hX := Bel.ex hX x130
              replace hXL46 := Bel.ex hXL46 x130
              replace hXL59 := Bel.ex hXL59 x130
              replace dl := (fun z hz => (dl z hz).ext x130)
              replace hl := hl.ext x130
              replace hlt := hlt.ext x130
              replace hsA := hsA.ext x130
              replace hwd := (fun z hz => (hwd z hz).ext x130)
              replace hsS := hsS.ext x130
              replace hwi := hwi.ext x130
              replace hb13 := hb13.ext x130
              replace hwj := hwj.ext x130
              replace hb15 := hb15.ext x130
              refine bindP_eq ?_
              refine bindP_eq ?_
              refine bindP_eq ?_
              refine bindP_eq ?_
              refine bindP_eq ?_
              refine bindP_eq ?_
              refine bindP_eq ?_
              refine bindP_eq ?_
              refine bindP_eq ?_
              refine bindP_eq ?_
              refine bindP_eq ?_
              refine bindP_eq ?_
              refine bindP_eq ?_
              refine bindP_eq ?_
              refine bindP_eq ?_
              refine bindP_eq ?_
              refine bindP_eq ?_
              refine bindP_eq ?_
              refine bindP_eq ?_
              refine bindP_eq ?_
              refine bindP_eq ?_
              refine bindP_eq ?_
              refine bindP_eq ?_
              refine bindP_eq ?_
              refine bindP_eq ?_
              refine bindP_eq ?_
              refine bindP_eq ?_
              refine bindP_eq ?_
              refine bindP_eq ?_
              refine bindP_eq ?_
              refine bindP_nil ?_
              refine Rg_nil ?_
              refine W_cond_false (congrArg Value.bool (by rw [hxi, hxj]; exact nest_law h10 hv (by omega) (by omega))) ?_
              refine W_skip ?_
              refine W_region ?_
              refine Rg_run rfl (o_add rfl rfl (by first | omega | (unfold I64; omega) | (simp; done) | (simp; omega) | (simp at *; omega))) ?_
              refine Rg_run rfl (o_moveh (v := .int _ _) rfl) ?_
              refine Rg_nil ?_
              refine ⟨k3 + 1, ⟨?_, trivial⟩, ?_, ⟨?_, hXL59⟩, ?_⟩
              · first | rfl | (go_num) | (exact congrArg _ (by omega))
              · repeat (first | exact off_refl _ _ | exact off_mix | refine off_put rfl ?_ | refine off_putN ?_ | refine off_setL rfl ?_ | refine off_mix' rfl ?_)
              · show k3 + 1 ≤ sv.length; omega
              · omega
          · skip
            replace hc8 := of_decide_eq_false hc8
            refine W_exit ?_
            refine exAt_hit ?_
            refine W_region ?_
            refine Rg_run rfl (o_add rfl rfl (by first | omega | (unfold I64; omega) | (simp; done) | (simp; omega) | (simp at *; omega))) ?_
            refine Rg_run rfl (o_moveh (v := .int _ _) rfl) ?_
            refine Rg_nil ?_
            refine ⟨k2 + 1, ⟨?_, trivial⟩, ?_, ⟨?_, hXL46⟩, ?_⟩
            · first | rfl | (go_num) | (exact congrArg _ (by omega))
            · repeat (first | exact off_refl _ _ | exact off_mix | refine off_put rfl ?_ | refine off_putN ?_ | refine off_setL rfl ?_ | refine off_mix' rfl ?_)
            · show k2 + 1 ≤ sv.length; omega
            · omega
        · skip
          replace hc6 := of_decide_eq_false hc6
          refine W_exit ?_
          refine exAt_hit ?_
          refine W_seq ?_
          refine W_region ?_
          refine Rg_run rfl o_assignc ?_
          refine Rg_nil ?_
          refine W_ret ?_
          refine ⟨_, res_tmp rfl rfl, ?_⟩
          refine ⟨congrArg Value.bool ?_, hX⟩
          all_goals (rfl)

end Go.Proofs.YtnhbdlllkmnpfaaDoor
