/- Walks: what functions return. -/
import Derived.Test.YtecjjgljkepajaaGreatDoorWr51
import Derived.Test.YtecjjgljkepajaaGreatDoorSt
set_option linter.unusedVariables false
set_option linter.unusedSimpArgs false
set_option linter.unnecessarySimpa false
namespace Go.Proofs.YtecjjgljkepajaaGreatDoor
open Go Go.Lx Go.RowKit
set_option maxRecDepth 100000
set_option maxHeartbeats 4000000 in
theorem rres_ok (a b : Option Addr) (c d : Nat) (G H : Nat → Prop) (X Y : List COp) (w : World) (hs : Sl encRo 8 G w a c X) (ht : Sl encRo 8 H w b d Y) (hn : X.length ≤ 100) (hm : Y.length ≤ 100) (hX0 : VS X) (hY0 : VS Y) (v2 : Value) (ch : List Bool) (hch0 : Rd encBl 1 (Lt w.heap.size) w v2 ch) : Ok Tryz.prog 16 #[.slice a X.length c, .slice b Y.length d, v2] w fun v w' => (∃ u, v = .tuple #[u, .int .i64 (resolveO X Y ch).2] ∧ Own encRo 8 92 (Fsh w w') w' u (resolveO X Y ch).1) ∧ Ext False w w' := by
 have hlen := hs.len; have hlen2 := ht.len
 replace hs := hs.mono (F' := fun g => g < w.heap.size) (fun g h1 h2 => h1)
 replace ht := ht.mono (F' := fun g => g < w.heap.size) (fun g h1 h2 => h1)
 obtain ⟨a2, c2, rfl, hch0⟩ := hch0; have hlc := hch0.len
 replace hch0 := hch0.mono (F' := fun g => g < w.heap.size) (fun g h1 h2 => h1)
 refine Ok_of_W 51 Tryz.func16 rfl rfl rfl ?_
 have hX : Ext False w w := Bel.refl _ _
 refine W_seq (W_region ?_)
 refine Rr o_assignc ?_
 refine Rr o_assignc ?_
 refine Rg_nil (W_seq (W_region ?_))
 obtain ⟨n3, hn3⟩ : ∃ n, n = w.heap.size := ⟨_, rfl⟩
 refine Rr (mvS rfl) ?_
 refine Rr (mvS rfl) ?_
 refine Rg_enter rfl (o_call2 Tryz.call9 rfl rfl) (Ok.mono (rsets_ok a b c d _ _ X Y _ hs ht hn hm hX0 hY0) ?_)
 rintro _ w1 ⟨⟨u15, z15, rfl, hown15, hownz15, hne15⟩, x2⟩
 have z3 := x2.size
 replace hX := hX.ex x2
 replace hs := hs.ext x2
 replace ht := ht.ext x2
 replace hch0 := hch0.ext x2
 refine Rr (o_moveh (v := .tuple _) rfl) ?_
 obtain ⟨n4, hn4⟩ : ∃ n, n = w1.heap.size := ⟨_, rfl⟩
 have hbl := bad_len X Y
 have hcl : (cflO X Y).length = (badK X Y).length := List.length_map ..
 replace hownz15 := hownz15.at (D' := fun g => n3 ≤ g ∧ g < n4 ∧ u15.ownBlock ≠ some g) (fun g h1 h2 => ⟨by have := (hownz15.loc g h2).1; omega, by omega, fun h => hne15 g h h2⟩)
 obtain ⟨a17, c17, hv17, hs17⟩ := hownz15.sl encRc_ok
 subst hv17
 replace hown15 := hown15.mono (D' := fun g => n3 ≤ g) (fun g h1 h2 => by have := h2.1; omega)
 refine Rr (o_extract rfl rfl) ?_
 refine Rr (o_extract rfl rfl) ?_
 refine Rr (o_assignh (v := u15) rfl) ?_
 refine Rr (asS rfl) ?_
 refine Rg_nil (W_seq (W_seq (W_region ?_)))
 refine Rr (mvS rfl) ?_
 refine Rr (o_llen Tryz.underlying42 rfl) ?_
 refine Rr (mvS rfl) ?_
 refine Rr (o_llen Tryz.underlying34 rfl) ?_
 refine Rr (o_neq rfl rfl) ?_
 refine Rg_nil ?_
 refine W_cond rfl (fun hc1 => ?_) (fun hc1 => ?_)
 ·have hln : ch.length ≠ (badK X Y).length := by have := hc1; simp at this; omega
  refine W_seq (W_region ?_)
  refine Rr o_assignc ?_
  refine Rr o_assignc ?_
  refine Rg_nil (W_ret ?_)
  refine ⟨_, res_tmp2 rfl rfl rfl, ?_⟩
  have e0 : resolveO X Y ch = ([], 1) := by rw [resolveO, if_pos hln]
  rw [e0]
  exact ⟨⟨_, rfl, Own.nil _ _⟩, hX⟩
 have hln : ch.length = (badK X Y).length := by have := hc1; simp at this; omega
 refine W_skip (W_seq (W_seq (W_region ?_)))
 refine Rr (mvS rfl) ?_
 refine Rr (o_llen Tryz.underlying34 rfl) ?_
 refine Rr o_movec ?_
 refine Rg_nil (W_block ?_)
 refine W_for (α := Nat × Value) [(8, 8), (10, 11), (25, 46)] (fun q => [(25, .int .i64 (q.1 : Int)), (8, q.2)]) (fun q w' => (q.1 ≤ (badK X Y).length) ∧ Bel False (fun g => n3 ≤ g) w1 w' ∧ (Own encRo 8 92 (fun g => n3 ≤ g) w' q.2 (sortO (bothO X Y) ++ pickO X Y ((badK X Y).take q.1) (ch.take q.1)) ∧ Sl encRc 22 (fun g => n3 ≤ g ∧ g < n4 ∧ q.2.ownBlock ≠ some g) w' a17 c17 (cflO X Y))) (fun q => (badK X Y).length - q.1) (0, u15) ⟨rfl, rfl, trivial⟩ ⟨Nat.zero_le _, Bel.refl _ _, ⟨by simpa [pickO] using hown15, hs17⟩⟩ ?_
 rintro ⟨k, t⟩ fb6 w5 ⟨hk, hXL4, ⟨hown8, hs17⟩⟩
 dsimp only at *
 have z7 := Bel.size hXL4
 replace hX := Bel.out hX hXL4 (fun g h1 h2 => by first | exact h2 | omega)
 replace hs := hs.keep hXL4 (fun g h1 h2 h3 => by omega)
 replace ht := ht.keep hXL4 (fun g h1 h2 h3 => by omega)
 replace hch0 := hch0.keep hXL4 (fun g h1 h2 h3 => by omega)
 refine W_seq (W_region ?_)
 refine Rr (o_lss rfl rfl) ?_
 refine Rg_nil (W_seq ?_)
 refine W_cond rfl (fun hc2 => ?_) (fun hc2 => ?_)
 ·have hk1 : k < (badK X Y).length := by have := of_decide_eq_true hc2; omega
  refine W_skip (W_seq (W_block (W_seq (W_region ?_))))
  refine Rr (mvI rfl) ?_
  refine Rr (o_iaR Tryz.underlying34 Tryz.sizeOf98 hs17 rfl rfl (by first | omega | (unfold I64; omega))) ?_
  refine Rr (o_ldRS Tryz.isAgg98 Tryz.sizeOf98 hs17 rfl (cfl_get (show k < (badK X Y).length by omega))) ?_
  refine Rg_newB rfl (o_alloc Tryz.zeroValue98) ?_
  intro b11 w8 x9 hge11 hb11
  replace hown8 := hown8.mono (D' := fun g => n3 ≤ g ∧ g ≠ b11) (fun g h1 h2 => by omega)
  have hlt11 := hb11.lt
  change Box _ _ _ ([.int _ _, .int _ _, .int _ _, str _, str _, .bool _, .bool _, .int _ _, .int _ _, .int _ _, .int _ _, str _, str _, .bool _, .bool _, .int _ _, .int _ _, .int _ _, .int _ _, str _, str _, .bool _]) at hb11
  have z10 := x9.size
  replace hX := hX.ex x9
  replace hXL4 := Bel.ex hXL4 x9
  replace hs := hs.ext x9
  replace ht := ht.ext x9
  replace hch0 := hch0.ext x9
  replace hown8 := hown8.ext x9
  replace hs17 := hs17.ext x9
  refine Rr (asI rfl) ?_
  refine Rg_storeW (v := .agg _) rfl Tryz.sizeOf98 rfl rfl hb11 rfl rfl rfl ?_
  intro w11 c12 hb11
  change Box _ _ _ (encRc _) at hb11
  have z13 := Bel.size c12
  replace hX := Bel.out hX c12 (fun g h1 h2 => by first | exact h2 | omega)
  replace hXL4 := Bel.out hXL4 c12 (fun g h1 h2 => by first | exact h2 | omega)
  replace hs := hs.keep c12 (fun g h1 h2 h3 => by omega)
  replace ht := ht.keep c12 (fun g h1 h2 h3 => by omega)
  replace hch0 := hch0.keep c12 (fun g h1 h2 h3 => by omega)
  replace hown8 := hown8.keepD c12 (fun g h1 h2 h3 => by omega)
  replace hs17 := hs17.keep c12 (fun g hg h1 h2 => by first | omega | (rcases h2 with h2 | h2 <;> first | exact h1.2.2 h2.1 | omega))
  refine Rg_nil (W_seq (W_region ?_))
  refine Rr (mvS rfl) ?_
  refine Rr (mvI rfl) ?_
  refine Rr (o_iaR Tryz.underlying42 Tryz.sizeOf4 hch0 rfl rfl (by first | omega | (unfold I64; omega))) ?_
  refine Rr (o_ldR Tryz.isAgg4 hch0 rfl rfl (getE false (show k < ch.length by omega)) rfl) ?_
  refine Rg_nil ?_
  refine W_cond rfl (fun hc3 => ?_) (fun hc3 => ?_)
  ·have hch : ch.getD k false = true := hc3
   refine W_region ?_
   obtain ⟨n7, hn7⟩ : ∃ n, n = w11.heap.size := ⟨_, rfl⟩
   replace hown8 := hown8.at (D' := fun g => t.ownBlock = some g ∧ n3 ≤ g ∧ g < n7 ∨ n7 ≤ g) (fun g hg hv => .inl ⟨hv, by have := hown8.loc g hv; omega, by omega⟩)
   refine Rr (o_moveh (v := t) rfl) ?_
   refine Rr (mvS rfl) ?_
   refine Rr (o_fa Tryz.underlying98 rfl Tryz.sizeOf94 rfl) ?_
   refine Rr (o_loadS Tryz.isAgg94 Tryz.sizeOf94 rfl (hb11.at.sub 0 6) rfl) ?_
   refine Rg_enter rfl (o_call2 Tryz.call34 rfl rfl) (Ok.mono (rwith_ok a c _ X ((badK X Y).getD k okz) _ hs (by omega)) ?_)
   rintro v38 w14 ⟨hown38, x15⟩
   have z16 := x15.size
   replace hX := hX.ex x15
   replace hXL4 := Bel.ex hXL4 x15
   replace hown8 := hown8.ext x15
   replace hs17 := hs17.ext x15
   replace hown38 := hown38.mono (D' := fun g => n3 ≤ g) (fun g h1 h2 => by omega)
   obtain ⟨a38, c38, hv38, hs38⟩ := hown38.sl encRo_ok
   subst hv38
   refine Rg_app rfl encRo_ok el_ro rfl rfl hown8 hs38 rfl (by have h0 := (sortO_perm (bothO X Y)).length_eq; have h1 := both_len X Y; have h2 := pick_len (A := X) (B := Y) ((badK X Y).take k) (ch.take k); have h3 := withK_len X ((badK X Y).getD k okz); rw [List.length_take, Nat.min_eq_left (by omega)] at h2; have h4 : k * (X.length + Y.length) ≤ 100 * (X.length + Y.length) := Nat.mul_le_mul_right _ (by omega); rw [List.length_append]; omega) (fun g h => .inr (by omega)) ?_
   intro v39 w17 x18 hown8
   have z19 := x18.size
   replace hX := Bel.out hX x18 (fun g h1 h2 => by first | exact h2 | omega)
   replace hXL4 := Bel.out hXL4 x18 (fun g h1 h2 => by first | exact h2 | omega)
   replace hs17 := hs17.keep x18 (fun g hg h1 h2 => by first | omega | (rcases h2 with h2 | h2 <;> first | exact h1.2.2 h2.1 | omega))
   refine Rr (o_assignh (v := v39) rfl) ?_
   refine Rg_nil (W_region ?_)
   refine Rr (o_add rfl rfl (by first | omega | (unfold I64; omega))) ?_
   refine Rr (mvI rfl) ?_
   refine Rg_nil ?_
   refine ⟨(k + 1, v39), ⟨?_, ?_, trivial⟩, ?_, ⟨?_, hXL4, ?_⟩, ?_⟩
   ·first | rfl | (go_num) | (exact congrArg _ (by omega))
   ·first | rfl | (go_num) | (exact congrArg _ (by omega))
   ·repeat (first | exact oR _ _ | exact oM | refine oP rfl ?_ | refine oN ?_ | refine oL rfl ?_ | refine oX rfl ?_)
   ·show k + 1 ≤ (badK X Y).length; omega
   ·refine ⟨?_, hs17.mono (fun g h1 h2 => ⟨h2.1, h2.2.1, fun h => ?_⟩)⟩
    ·show Own _ _ _ _ _ _ (sortO (bothO X Y) ++ pickO X Y ((badK X Y).take (k + 1)) (ch.take (k + 1)))
     rw [pickO_succ (z := okz) (by omega) (by omega), ← List.append_assoc, if_pos (by rw [hch])]; exact hown8.mono (fun g h1 h2 => by omega)
    ·rcases hown8.loc g h with q | q
     ·exact h2.2.2 q.1
     ·have := h2.2.1; omega
   ·show (badK X Y).length - (k + 1) < (badK X Y).length - k; omega
  have hch : ch.getD k false = false := hc3
  refine W_region ?_
  obtain ⟨n7, hn7⟩ : ∃ n, n = w11.heap.size := ⟨_, rfl⟩
  replace hown8 := hown8.at (D' := fun g => t.ownBlock = some g ∧ n3 ≤ g ∧ g < n7 ∨ n7 ≤ g) (fun g hg hv => .inl ⟨hv, by have := hown8.loc g hv; omega, by omega⟩)
  refine Rr (o_moveh (v := t) rfl) ?_
  refine Rr (mvS rfl) ?_
  refine Rr (o_fa Tryz.underlying98 rfl Tryz.sizeOf94 rfl) ?_
  refine Rr (o_loadS Tryz.isAgg94 Tryz.sizeOf94 rfl (hb11.at.sub 0 6) rfl) ?_
  refine Rg_enter rfl (o_call2 Tryz.call34 rfl rfl) (Ok.mono (rwith_ok b d _ Y ((badK X Y).getD k okz) _ ht (by omega)) ?_)
  rintro v44 w20 ⟨hown44, x21⟩
  have z22 := x21.size
  replace hX := hX.ex x21
  replace hXL4 := Bel.ex hXL4 x21
  replace hown8 := hown8.ext x21
  replace hs17 := hs17.ext x21
  replace hown44 := hown44.mono (D' := fun g => n3 ≤ g) (fun g h1 h2 => by omega)
  obtain ⟨a44, c44, hv44, hs44⟩ := hown44.sl encRo_ok
  subst hv44
  refine Rg_app rfl encRo_ok el_ro rfl rfl hown8 hs44 rfl (by have h0 := (sortO_perm (bothO X Y)).length_eq; have h1 := both_len X Y; have h2 := pick_len (A := X) (B := Y) ((badK X Y).take k) (ch.take k); have h3 := withK_len Y ((badK X Y).getD k okz); rw [List.length_take, Nat.min_eq_left (by omega)] at h2; have h4 : k * (X.length + Y.length) ≤ 100 * (X.length + Y.length) := Nat.mul_le_mul_right _ (by omega); rw [List.length_append]; omega) (fun g h => .inr (by omega)) ?_
  intro v45 w23 x24 hown8
  have z25 := x24.size
  replace hX := Bel.out hX x24 (fun g h1 h2 => by first | exact h2 | omega)
  replace hXL4 := Bel.out hXL4 x24 (fun g h1 h2 => by first | exact h2 | omega)
  replace hs17 := hs17.keep x24 (fun g hg h1 h2 => by first | omega | (rcases h2 with h2 | h2 <;> first | exact h1.2.2 h2.1 | omega))
  refine Rr (o_assignh (v := v45) rfl) ?_
  refine Rg_nil (W_region ?_)
  refine Rr (o_add rfl rfl (by first | omega | (unfold I64; omega))) ?_
  refine Rr (mvI rfl) ?_
  refine Rg_nil ?_
  refine ⟨(k + 1, v45), ⟨?_, ?_, trivial⟩, ?_, ⟨?_, hXL4, ?_⟩, ?_⟩
  ·first | rfl | (go_num) | (exact congrArg _ (by omega))
  ·first | rfl | (go_num) | (exact congrArg _ (by omega))
  ·repeat (first | exact oR _ _ | exact oM | refine oP rfl ?_ | refine oN ?_ | refine oL rfl ?_ | refine oX rfl ?_)
  ·show k + 1 ≤ (badK X Y).length; omega
  ·refine ⟨?_, hs17.mono (fun g h1 h2 => ⟨h2.1, h2.2.1, fun h => ?_⟩)⟩
   ·show Own _ _ _ _ _ _ (sortO (bothO X Y) ++ pickO X Y ((badK X Y).take (k + 1)) (ch.take (k + 1)))
    rw [pickO_succ (z := okz) (by omega) (by omega), ← List.append_assoc, if_neg (by rw [hch]; simp)]; exact hown8.mono (fun g h1 h2 => by omega)
   ·rcases hown8.loc g h with q | q
    ·exact h2.2.2 q.1
    ·have := h2.2.1; omega
  ·show (badK X Y).length - (k + 1) < (badK X Y).length - k; omega
 have hk1 : ¬ k < (badK X Y).length := by have := of_decide_eq_false hc2; omega
 refine W_exit (exAt_hit (W_seq (W_region ?_)))
 rw [List.take_of_length_le (by omega), List.take_of_length_le (by omega)] at hown8
 refine Rr (o_moveh (v := t) rfl) ?_
 refine Rg_enter rfl (o_call1 Tryz.call32 rfl) (Ok.mono (rof_ok _ _ (sortO (bothO X Y) ++ pickO X Y (badK X Y) ch) (hown8.trd encRo_ok) (by have h0 := (sortO_perm (bothO X Y)).length_eq; have h1 := both_len X Y; have h2 := pick_len (A := X) (B := Y) (badK X Y) ch; have h4 : (badK X Y).length * (X.length + Y.length) ≤ 100 * (X.length + Y.length) := Nat.mul_le_mul_right _ (by omega); rw [List.length_append]; omega) (fun x hx => (List.mem_append.1 hx).elim (fun h => (both_vo hX0 hY0 x ((sortO_perm _).mem_iff.1 h)).ok) (fun h => (pick_vo hX0 hY0 x h).ok))) ?_)
 rintro _ w26 ⟨⟨u48, rfl, hown48⟩, x27⟩
 have z28 := x27.size
 replace hX := hX.ex x27
 refine Rr (o_extract rfl rfl) ?_
 refine Rr (o_extract rfl rfl) ?_
 refine Rr (o_assignh (v := u48) rfl) ?_
 refine Rr (asI rfl) ?_
 refine Rg_nil (W_ret ?_)
 refine ⟨_, res_tmp2 rfl rfl rfl, ?_⟩
 rw [res_perm hX0 hY0 hln] at hown48
 have e0 := res_perm hX0 hY0 hln
 rw [← e0]
 rw [← e0] at hown48
 exact ⟨⟨u48, rfl, hown48.mono (fun g h1 h2 => ⟨by have := h2.1; omega, by omega⟩)⟩, hX⟩

end Go.Proofs.YtecjjgljkepajaaGreatDoor
