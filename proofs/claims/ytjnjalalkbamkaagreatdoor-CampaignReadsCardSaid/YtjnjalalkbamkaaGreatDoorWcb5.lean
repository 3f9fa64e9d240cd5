/- Walks: what functions return. -/
import Derived.Test.YtjnjalalkbamkaaGreatDoorWwire
import Derived.Test.YtjnjalalkbamkaaGreatDoorWc52
import Derived.Test.YtjnjalalkbamkaaGreatDoorWr52
set_option linter.unusedVariables false
set_option linter.unusedSimpArgs false
set_option linter.unnecessarySimpa false
namespace Go.Proofs.YtjnjalalkbamkaaGreatDoor
open Go Go.Lx Go.RowKit Tryz
set_option maxRecDepth 100000
set_option maxHeartbeats 4000000 in
theorem cpbytes_ok (b : Nat) (c : Cpg) (a0 : Option Addr) (n0 : Nat) (G0 : Nat → Prop) (w : World) (hb : Box w b 73 (cgC c (.slice a0 c.l.length n0))) (hl : Sl encIp 4 G0 w a0 n0 c.l) (hnb : c.nb) (hd4 : ∀ x ∈ c.l, x.d ≤ 255) (hn : c.l.length ≤ 20000) : Ok Tryz.prog 9 #[.pointer (some ⟨b, 0, none⟩)] w fun v w' => Own encB 1 5 (Fsh w w') w' v (cpB c) ∧ Ext False w w' := by
 have hbl := hb.lt; have hlen := hl.len
 replace hl := hl.mono (F' := fun g => g < w.heap.size) (fun g h1 h2 => h1)
 obtain ⟨hq1, hq2, hq3, hq4, hq5, hq6⟩ := hnb
 unfold Nb at hq1 hq2 hq3 hq4
 refine Qz 86 func9 rfl rfl rfl ?_
 have hX := xRf w
 refine Qe (Qc ?_)
 refine Rr Qm ?_
 refine Qd (Qe (Qe (Qc ?_)))
 refine Rr (Ql (v := .pointer _) rfl) ?_
 refine Rr (o_peq underlying32 rfl rfl) ?_
 refine Qd ?_
 refine Qr rfl ?_
 refine Qu (Qe (Qc ?_))
 obtain ⟨n1, hn1⟩ : ∃ n, n = w.heap.size := ⟨_, rfl⟩
 refine Qo rfl (o_call0 call32) (Ok.mono (wnew_ok _) ?_)
 rintro v12 w1 ⟨hw, x2⟩
 have z3 := x2.size
 replace hX := hX.ex x2
 replace hb := hb.ext x2
 replace hl := hl.ext x2
 replace hw := hw.mono (D' := fun g => n1 ≤ g) (fun g h1 h2 => by omega)
 refine Rr (Qv (v := v12) rfl) ?_
 refine Qd (Qe (Qe ?_))
 obtain ⟨n2, hn2⟩ : ∃ n, n = w1.heap.size := ⟨_, rfl⟩
 replace hw := hw.mono (D' := fun g => n1 ≤ g ∧ g < n2) (fun g h1 h2 => by omega)
 apply Ze (β := False) (fun _ => 0) [peqC _, peqC _, peqC _, peqC _, peqC _, peqC _, peqC _, peqC _, peqC _, peqC _, peqC _, peqC _, peqC _, peqC _, peqC _, peqC _, (fun v w cc => ∃ a, v = .slice a 4 4 ∧ postOwn encJ 1 3 1 ([c.day, c.dl, c.la, c.ch] : List Int) v w cc), (postV (fun v => v = .int .i64 ((4 : Nat) : Int))), peqC _] [0, 0, 0, 0, 0, 0, 0, 0, 0, 0, 0, 0, 0, 0, 0, 0, 1, 0, 0] 19 Q9 (by kernel_rfl) (by kernel_rfl) rfl ⟨Qi _ _, Qi _ _, Qi _ _, Qi _ _, Qi _ _, Qi _ _, Qi _ _, Qi _ _, Qi _ _, Qi _ _, Qi _ _, Qi _ _, Qi _ _, Qi _ _, Qi _ _, Qi _ _, (postBs_stable), (postV_stable), Qi _ _, trivial⟩ ?ob4 ?fin4
 case ob4 =>
  refine Qk (fun w4 c6 x5 hc07 hk8 => ?_) ?_
  ·replace x5 := RelG.ext0 x5
   have z9 := x5.size
   refine Qj ?_
   exact Qs rfl (Ql (v := .pointer _) rfl)
  refine Qk (fun w10 c12 x11 hc013 hk14 => ?_) ?_
  ·replace x11 := RelG.ext0 x11
   have z15 := x11.size
   refine Qb (Qj ?_)
   exact Qs rfl (QG rfl)
  refine Qk (fun w16 c18 x17 hc019 hk20 => ?_) ?_
  ·replace x17 := RelG.ext0 x17
   have z21 := x17.size
   refine Qb (Qj ?_)
   exact Qs rfl (Qx underlying73 rfl sizeOf3 rfl)
  refine Qk (fun w22 c24 x23 hc025 hk26 => ?_) ?_
  ·replace x23 := RelG.ext0 x23
   have z27 := x23.size
   have hb := hb.ext x23
   refine Qb (Qj ?_)
   exact Qs rfl (Qn isAgg3 rfl (hb.at.get 0 rfl))
  refine Qk (fun w28 c30 x29 hc031 hk32 => ?_) ?_
  ·replace x29 := RelG.ext0 x29
   have z33 := x29.size
   refine Qj ?_
   exact Qs rfl (Ql (v := .pointer _) rfl)
  refine Qk (fun w34 c36 x35 hc037 hk38 => ?_) ?_
  ·replace x35 := RelG.ext0 x35
   have z39 := x35.size
   refine Qb (Qj ?_)
   exact Qs rfl (QG rfl)
  refine Qk (fun w40 c42 x41 hc043 hk44 => ?_) ?_
  ·replace x41 := RelG.ext0 x41
   have z45 := x41.size
   refine Qb (Qj ?_)
   exact Qs rfl (Qx underlying73 rfl sizeOf3 rfl)
  refine Qk (fun w46 c48 x47 hc049 hk50 => ?_) ?_
  ·replace x47 := RelG.ext0 x47
   have z51 := x47.size
   have hb := hb.ext x47
   refine Qb (Qj ?_)
   exact Qs rfl (Qn isAgg3 rfl (hb.at.get 1 rfl))
  refine Qk (fun w52 c54 x53 hc055 hk56 => ?_) ?_
  ·replace x53 := RelG.ext0 x53
   have z57 := x53.size
   refine Qj ?_
   exact Qs rfl (Ql (v := .pointer _) rfl)
  refine Qk (fun w58 c60 x59 hc061 hk62 => ?_) ?_
  ·replace x59 := RelG.ext0 x59
   have z63 := x59.size
   refine Qb (Qj ?_)
   exact Qs rfl (QG rfl)
  refine Qk (fun w64 c66 x65 hc067 hk68 => ?_) ?_
  ·replace x65 := RelG.ext0 x65
   have z69 := x65.size
   refine Qb (Qj ?_)
   exact Qs rfl (Qx underlying73 rfl sizeOf3 rfl)
  refine Qk (fun w70 c72 x71 hc073 hk74 => ?_) ?_
  ·replace x71 := RelG.ext0 x71
   have z75 := x71.size
   have hb := hb.ext x71
   refine Qb (Qj ?_)
   exact Qs rfl (Qn isAgg3 rfl (hb.at.get 2 rfl))
  refine Qk (fun w76 c78 x77 hc079 hk80 => ?_) ?_
  ·replace x77 := RelG.ext0 x77
   have z81 := x77.size
   refine Qj ?_
   exact Qs rfl (Ql (v := .pointer _) rfl)
  refine Qk (fun w82 c84 x83 hc085 hk86 => ?_) ?_
  ·replace x83 := RelG.ext0 x83
   have z87 := x83.size
   refine Qb (Qj ?_)
   exact Qs rfl (QG rfl)
  refine Qk (fun w88 c90 x89 hc091 hk92 => ?_) ?_
  ·replace x89 := RelG.ext0 x89
   have z93 := x89.size
   refine Qb (Qj ?_)
   exact Qs rfl (Qx underlying73 rfl sizeOf3 rfl)
  refine Qk (fun w94 c96 x95 hc097 hk98 => ?_) ?_
  ·replace x95 := RelG.ext0 x95
   have z99 := x95.size
   have hb := hb.ext x95
   refine Qb (Qj ?_)
   exact Qs rfl (Qn isAgg3 rfl (hb.at.get 3 rfl))
  refine Qk (fun w100 c102 x101 hc0103 hk104 => ?_) ?_
  ·replace x101 := RelG.ext0 x101
   have z105 := x101.size
   refine Qb (Qb (Qb (Qb (Qj ?_))))
   exact OpC_bs (vs := [.int _ _, .int _ _, .int _ _, .int _ _]) ([c.day, c.dl, c.la, c.ch] : List Int) encJ_ok el_int rfl rfl ⟨rfl, rfl, rfl, rfl, trivial⟩ rfl rfl rfl rfl
  refine Qk (fun w106 c108 x107 hc0109 hk110 => ?_) ?_
  ·replace x107 := RelG.ext0 x107
   have z111 := x107.size
   refine Qw (fun v29 hv29 => ?_)
   refine Qj ?_
   obtain ⟨a29, rfl, ho29⟩ := hv29
   exact OpC_vp rfl (QK underlying80 rfl) rfl
  refine Qk (fun w112 c114 x113 hc0115 hk116 => ?_) ?_
  ·replace x113 := RelG.ext0 x113
   have z117 := x113.size
   refine Qj ?_
   exact Qs rfl QT
  exact Q8
 case fin4 =>
  intro w118 c120 x119 hc0121
  replace x119 := RelG.ext0 x119
  have z122 := x119.size
  replace hX := hX.ex x119
  replace hb := hb.ext x119
  replace hl := hl.ext x119
  replace hw := hw.ext x119
  refine Qb (Qb (Qb (Qb (Qb (Qb (Qb (Qb (Qb ?_))))))))
  refine Qb (Qb (Qb (Qb (Qb (Qb (Qb ?_))))))
  refine Qw (fun v29 hv29 => ?_)
  refine Qw (fun v30 hv30 => ?_)
  refine Qb (Qj ?_)
  obtain ⟨a29, hva29, ho29⟩ := hv29
  subst hva29
  change Own _ _ _ _ _ _ _ at ho29
  have hs29 := (Own.mono ho29 (D' := fun g => n2 ≤ g) (fun g h1 h2 => Nat.le_of_not_lt fun q => by have h := hc0121 g (by omega); rw [h2] at h; simp at h)).slA encJ_ok
  have he30 : v30 = _ := hv30
  subst he30
  obtain ⟨n3, hn3⟩ : ∃ n, n = w118.heap.size := ⟨_, rfl⟩
  replace hs29 := hs29.mono (F' := fun g => n2 ≤ g ∧ g < n3) (fun g h1 h2 => ⟨h2, by omega⟩)
  replace hw := hw.mono (D' := fun g => (n1 ≤ g ∧ g < n2) ∨ n3 ≤ g) (fun g h1 h2 => by omega)
  refine Qd (QB ?_)
  refine Za (α := Nat) [(5, 5), (31, 39)] (fun j => [(31, .int .i64 (j : Int))]) (fun j w' => (j ≤ 4) ∧ Bel False (fun g => (n1 ≤ g ∧ g < n2) ∨ n3 ≤ g) w118 w' ∧ (Wr 134 5 (fun g => (n1 ≤ g ∧ g < n2) ∨ n3 ≤ g) w' v12 (nuB (([c.day, c.dl, c.la, c.ch] : List Int).take j)))) (fun j => 4 - j) 0 ⟨rfl, trivial⟩ ⟨Nat.zero_le _, Bel.refl _ _, (by simpa [nuB] using hw)⟩ ?_
  rintro j fb125 w124 ⟨hj, hXL123, hw⟩
  have z126 := Bel.size hXL123
  replace hX := Bel.out hX hXL123 om2
  replace hb := hb.keep hXL123 om1
  replace hl := hl.keep hXL123 om3
  replace hs29 := hs29.keep hXL123 om3
  refine Qe (Qc ?_)
  refine Rr (QQ rfl rfl) ?_
  refine Qd (Qe ?_)
  refine QD rfl (fun hc2 => ?_) (fun hc2 => ?_)
  ·have hj1 : j < 4 := by have := dcT hc2; omega
   have hjr : 0 ≤ ([c.day, c.dl, c.la, c.ch] : List Int).getD j 0 ∧ ([c.day, c.dl, c.la, c.ch] : List Int).getD j 0 < 18446744073709551616 := (fun (z : Int) (hz : z ∈ ([c.day, c.dl, c.la, c.ch] : List Int)) => (by simp only [List.mem_cons, List.not_mem_nil, or_false] at hz; rcases hz with rfl | rfl | rfl | rfl <;> omega : 0 ≤ z ∧ z < 18446744073709551616)) _ (gm (z := (0 : Int)) (show j < ([c.day, c.dl, c.la, c.ch] : List Int).length from hj1))
   refine Qu (Qe (QB (Qe (Qc ?_))))
   refine Rr (Zg underlying80 sizeOf3 hs29 rfl rfl omg) ?_
   refine Rr (o_ldR isAgg3 hs29 rfl rfl (getE (0 : Int) hj1) rfl) ?_
   refine Rr (asI rfl) ?_
   refine Qd (Qc ?_)
   refine Rr (Ql (v := v12) rfl) ?_
   refine Rr (mvI rfl) ?_
   refine Rr (o_convI underlying3 underlying67 rfl hjr.1 hjr.2) ?_
   refine Qo rfl (QM call33 rfl rfl) (Ok.mono (wuint_ok v12 (fun g => (n1 ≤ g ∧ g < n2) ∨ n3 ≤ g) (nuB (([c.day, c.dl, c.la, c.ch] : List Int).take j)) (iW (([c.day, c.dl, c.la, c.ch] : List Int).getD j 0)) _ hw (fun g h => by omega) (by have h1 := nuB_len (([c.day, c.dl, c.la, c.ch] : List Int).take j); rw [List.length_take] at h1; omega)) ?_)
   rintro _ w127 ⟨rfl, hw, x128⟩
   have z129 := x128.size
   replace hX := Bel.out hX x128 om2
   replace hXL123 := Bel.out hXL123 x128 om2
   refine Qd (Qc ?_)
   refine Rr (Q6 rfl rfl omg) ?_
   refine Rr (mvI rfl) ?_
   refine Qd ?_
   refine ⟨j + 1, ⟨sT, trivial⟩, oT, ⟨?_, hXL123, ?_⟩, ?_⟩
   ·show j + 1 ≤ 4; omega
   ·rw [nuB_succ (show j < ([c.day, c.dl, c.la, c.ch] : List Int).length from hj1)]; exact hw
   ·omega
  have hj1 : ¬ j < 4 := by have := dcF hc2; omega
  refine QS (QL (Qe (Qc ?_)))
  have hj4 : j = 4 := by omega
  subst hj4
  rw [List.take_of_length_le (show ([c.day, c.dl, c.la, c.ch] : List Int).length ≤ 4 from Nat.le_refl _)] at hw
  have hnc := nuB_len ([c.day, c.dl, c.la, c.ch] : List Int)
  simp only [List.length_cons, List.length_nil] at hnc
  refine Rr (Ql (v := v12) rfl) ?_
  refine Rr (Ql (v := .pointer _) rfl) ?_
  refine Rr (QG rfl) ?_
  refine Rr (Qx underlying73 rfl sizeOf4 rfl) ?_
  refine Rr (Qn isAgg4 rfl (hb.at.get 4 rfl)) ?_
  refine Qo rfl (QM call34 rfl rfl) (Ok.mono (wflag_ok v12 (fun g => (n1 ≤ g ∧ g < n2) ∨ n3 ≤ g) (nuB ([c.day, c.dl, c.la, c.ch] : List Int)) c.kp _ hw (fun g h => by omega) (by omega)) ?_)
  rintro _ w130 ⟨rfl, hw, x131⟩
  have z132 := x131.size
  replace hX := Bel.out hX x131 om2
  replace hb := hb.keep x131 om1
  replace hl := hl.keep x131 om3
  refine Qd (Qe (Qc ?_))
  refine Rr (Ql (v := v12) rfl) ?_
  refine Rr (Ql (v := .pointer _) rfl) ?_
  refine Rr (QG rfl) ?_
  refine Rr (Qx underlying73 rfl sizeOf53 rfl) ?_
  refine Rr (Qn isAgg53 rfl (hb.at.get 5 rfl)) ?_
  refine Rr (QK underlying53 rfl) ?_
  refine Rr (o_convV (n := c.l.length) underlying3 underlying67 rfl (by omega)) ?_
  refine Qo rfl (QM call33 rfl rfl) (Ok.mono (wuint_ok v12 (fun g => (n1 ≤ g ∧ g < n2) ∨ n3 ≤ g) (nuB ([c.day, c.dl, c.la, c.ch] : List Int) ++ [putF c.kp]) (BitVec.ofNat 64 c.l.length) _ hw (fun g h => by omega) (by simp only [List.length_append, List.length_singleton]; omega)) ?_)
  rintro _ w133 ⟨rfl, hw, x134⟩
  have z135 := x134.size
  replace hX := Bel.out hX x134 om2
  replace hb := hb.keep x134 om1
  replace hl := hl.keep x134 om3
  refine Qd (Qe (Qe (Qc ?_)))
  refine Rr (Ql (v := .pointer _) rfl) ?_
  refine Rr (QG rfl) ?_
  refine Rr (Qx underlying73 rfl sizeOf53 rfl) ?_
  refine Rr (Qn isAgg53 rfl (hb.at.get 5 rfl)) ?_
  refine Rr (QK underlying53 rfl) ?_
  refine Rr QT ?_
  refine Qd (QB ?_)
  refine Za (α := Nat) [(7, 7), (9, 9), (59, 83)] (fun k => [(59, .int .i64 (k : Int))]) (fun k w' => (k ≤ c.l.length) ∧ Bel False (fun g => n1 ≤ g) w133 w' ∧ (Wr 134 5 (fun g => n1 ≤ g) w' v12 (cpK c k))) (fun k => c.l.length - k) 0 ⟨rfl, trivial⟩ ⟨Nat.zero_le _, Bel.refl _ _, (by rw [cpK_zero, cpH_nums]; exact hw.mono (fun g h1 h2 => by omega))⟩ ?_
  rintro k fb138 w137 ⟨hk, hXL136, hw⟩
  have z139 := Bel.size hXL136
  replace hX := Bel.out hX hXL136 om2
  replace hl := hl.keep hXL136 om3
  refine Qe (Qc ?_)
  refine Rr (QQ rfl rfl) ?_
  refine Qd (Qe ?_)
  refine QD rfl (fun hc3 => ?_) (fun hc3 => ?_)
  ·have hk1 : k < c.l.length := by have := dcT hc3; omega
   refine Qu (Qe (QB (Qe (Qc ?_))))
   obtain ⟨n5, hn5⟩ : ∃ n, n = w137.heap.size := ⟨_, rfl⟩
   replace hw := hw.mono (D' := fun g => n1 ≤ g ∧ g < n5) (fun g h1 h2 => by omega)
   refine Rr (Zg underlying53 sizeOf56 hl rfl rfl omg) ?_
   refine Rr (o_ldRS isAgg56 sizeOf56 hl rfl (getE itz hk1)) ?_
   refine Rg_alst rfl rfl zeroValue56 rfl sizeOf56 (fun _ => rfl) rfl rfl ?_
   intro b7 w140 x141 hge7 hb7
   have hlt7 := hb7.lt
   change Box _ _ _ (encIp _) at hb7
   have z142 := x141.size
   replace hX := hX.ex x141
   replace hXL136 := Bel.ex hXL136 x141
   replace hw := hw.ext x141
   refine Qd (Qe (Qc ?_))
   obtain ⟨o, ho⟩ : ∃ o, o = (c.l.getD k itz) := ⟨_, rfl⟩
   rw [← ho] at hb7
   have hx : o.nb := hq6 o (ho ▸ gm hk1)
   have hxd : o.d ≤ 255 := hd4 o (ho ▸ gm hk1)
   obtain ⟨hx1, hx2, hx3, hx4⟩ := hx
   unfold Nb at hx1 hx2 hx3 hx4
   refine Rr (Qx underlying56 rfl sizeOf3 rfl) ?_
   refine Rr (Qn isAgg3 rfl (hb7.at.get 0 rfl)) ?_
   refine Rr (Qx underlying56 rfl sizeOf3 rfl) ?_
   refine Rr (Qn isAgg3 rfl (hb7.at.get 1 rfl)) ?_
   refine Rr (Qx underlying56 rfl sizeOf3 rfl) ?_
   refine Rr (Qn isAgg3 rfl (hb7.at.get 2 rfl)) ?_
   refine Rr (Qx underlying56 rfl sizeOf54 rfl) ?_
   refine Rr (Qn isAgg54 rfl (hb7.at.get 3 rfl)) ?_
   refine Rr (o_convS underlying54 underlying3 rfl (wrap_in (by unfold I64; omega))) ?_
   refine Rg_bs (vs := [.int _ _, .int _ _, .int _ _, .int _ _]) (([o.u, o.r, o.v, o.d] : List Int)) rfl encJ_ok el_int rfl rfl ⟨rfl, ⟨rfl, ⟨rfl, ⟨rfl, trivial⟩⟩⟩⟩ rfl rfl rfl rfl ?_
   intro a72 w143 x144 hown72
   have z145 := x144.size
   replace hX := hX.ex x144
   replace hXL136 := Bel.ex hXL136 x144
   replace hw := hw.ext x144
   obtain ⟨n6, hn6⟩ : ∃ n, n = w143.heap.size := ⟨_, rfl⟩
   replace hown72 := hown72.mono (D' := fun g => n5 ≤ g ∧ g < n6) (fun g h1 h2 => by omega)
   replace hw := hw.mono (D' := fun g => (n1 ≤ g ∧ g < n5) ∨ n6 ≤ g) (fun g h1 h2 => by omega)
   refine Rr (QK underlying80 rfl) ?_
   refine Rr QT ?_
   refine Qd (QB ?_)
   refine Za (α := Nat) [(9, 9), (74, 82)] (fun i => [(74, .int .i64 (i : Int))]) (fun i w' => (i ≤ 4) ∧ Bel False (fun g => (n1 ≤ g ∧ g < n5) ∨ n6 ≤ g) w143 w' ∧ (Wr 134 5 (fun g => (n1 ≤ g ∧ g < n5) ∨ n6 ≤ g) w' v12 ((cpK c k) ++ nuB (([o.u, o.r, o.v, o.d] : List Int).take i)))) (fun i => 4 - i) 0 ⟨rfl, trivial⟩ ⟨Nat.zero_le _, Bel.refl _ _, (by simpa [nuB] using hw)⟩ ?_
   rintro i fb148 w147 ⟨hi, hXL146, hw⟩
   have z149 := Bel.size hXL146
   replace hX := Bel.out hX hXL146 om2
   replace hXL136 := Bel.out hXL136 hXL146 om2
   replace hown72 := hown72.keepD hXL146 om3
   refine Qe (Qc ?_)
   refine Rr (QQ rfl rfl) ?_
   refine Qd (Qe ?_)
   refine QD rfl (fun hc4 => ?_) (fun hc4 => ?_)
   ·have hi1 : i < 4 := by have := dcT hc4; omega
    have hir : 0 ≤ ([o.u, o.r, o.v, o.d] : List Int).getD i 0 ∧ ([o.u, o.r, o.v, o.d] : List Int).getD i 0 < 18446744073709551616 := (fun (z : Int) (hz : z ∈ ([o.u, o.r, o.v, o.d] : List Int)) => (by simp only [List.mem_cons, List.not_mem_nil, or_false] at hz; rcases hz with rfl | rfl | rfl | rfl <;> omega : 0 ≤ z ∧ z < 18446744073709551616)) _ (gm (z := (0 : Int)) (show i < ([o.u, o.r, o.v, o.d] : List Int).length from hi1))
    refine Qu (Qe (QB (Qe (Qc ?_))))
    refine Rr (Zg underlying80 sizeOf3 (hown72.slA encJ_ok) rfl rfl omg) ?_
    refine Rr (o_ldR isAgg3 (hown72.slA encJ_ok) rfl rfl (getE (0 : Int) hi1) rfl) ?_
    refine Rr (asI rfl) ?_
    refine Qd (Qc ?_)
    refine Rr (Ql (v := v12) rfl) ?_
    refine Rr (mvI rfl) ?_
    refine Rr (o_convI underlying3 underlying67 rfl hir.1 hir.2) ?_
    refine Qo rfl (QM call33 rfl rfl) (Ok.mono (wuint_ok v12 (fun g => (n1 ≤ g ∧ g < n5) ∨ n6 ≤ g) ((cpK c k) ++ nuB (([o.u, o.r, o.v, o.d] : List Int).take i)) (iW (([o.u, o.r, o.v, o.d] : List Int).getD i 0)) _ hw (fun g h => by omega) (by have h1 := nuB_len (([o.u, o.r, o.v, o.d] : List Int).take i); have h2 := cpK_len c k (by omega); rw [List.length_take] at h1; (try simp only [List.length_append, List.length_singleton]); omega)) ?_)
    rintro _ w150 ⟨rfl, hw, x151⟩
    have z152 := x151.size
    replace hX := Bel.out hX x151 om2
    replace hXL136 := Bel.out hXL136 x151 om2
    replace hXL146 := Bel.out hXL146 x151 om2
    refine Qd (Qc ?_)
    refine Rr (Q6 rfl rfl omg) ?_
    refine Rr (mvI rfl) ?_
    refine Qd ?_
    refine ⟨i + 1, ⟨sT, trivial⟩, oT, ⟨?_, hXL146, ?_⟩, ?_⟩
    ·show i + 1 ≤ 4; omega
    ·rw [nuB_succ (show i < ([o.u, o.r, o.v, o.d] : List Int).length from hi1), ← List.append_assoc]; exact hw
    ·omega
   have hi1 : ¬ i < 4 := by have := dcF hc4; omega
   refine QS (QL (Qc ?_))
   refine Rr (Q6 rfl rfl omg) ?_
   refine Rr (mvI rfl) ?_
   refine Qd ?_
   refine ⟨k + 1, ⟨sT, trivial⟩, oT, ⟨?_, hXL136, ?_⟩, ?_⟩
   ·show k + 1 ≤ c.l.length; omega
   ·have hi4 : i = 4 := by omega
    subst hi4
    rw [List.take_of_length_le (show ([o.u, o.r, o.v, o.d] : List Int).length ≤ 4 from Nat.le_refl _)] at hw
    rw [cpK_succ hk1, ← ho, itB_nums]
    exact hw.mono (fun g h1 h2 => by omega)
   ·omega
  have hk1 : ¬ k < c.l.length := by have := dcF hc3; omega
  refine QS (QL (Qe (Qc ?_)))
  rw [cpK_end (by omega)] at hw
  have hcl := cpK_len c k (by omega)
  rw [cpK_end (by omega)] at hcl
  refine Rr (Ql (v := v12) rfl) ?_
  refine Qo rfl (QA call35 rfl) (Ok.mono (wout_ok v12 _ (cpB c) _ hw (by omega)) ?_)
  rintro v85 w153 ⟨hown85, x154⟩
  have z155 := x154.size
  replace hX := hX.ex x154
  replace hown85 := hown85.mono (D' := fun g => n1 ≤ g) (fun g h1 h2 => by omega)
  refine Rr (Qv (v := v85) rfl) ?_
  refine Qd (Qy ?_)
  refine ⟨_, Qp rfl rfl, ?_⟩
  exact ⟨hown85.mono (fun g h1 h2 => by omega), hX⟩

