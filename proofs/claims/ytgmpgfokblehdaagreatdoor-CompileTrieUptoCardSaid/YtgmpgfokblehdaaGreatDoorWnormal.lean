/- Walks: what functions return. -/
import Derived.Test.YtgmpgfokblehdaaGreatDoorWnorm
import Derived.Test.YtgmpgfokblehdaaGreatDoorWcomp
import Derived.Test.YtgmpgfokblehdaaGreatDoorSortP
set_option linter.unusedVariables false
set_option linter.unusedSimpArgs false
set_option linter.unnecessarySimpa false
namespace Go.Proofs.YtgmpgfokblehdaaGreatDoor
open Go Go.Lx Go.RowKit Tryz
set_option maxRecDepth 100000
theorem pcompactV_ok (β : Prop) (B : Nat → Prop) (l : List Perm) (v : Value) (w : World) (ho : Own encP 3 50 B w v l) : Ok Tryz.prog 178 #[v] w fun v' w' => Own encP 3 50 B w' v' (compL l) ∧ Bel β B w w' := by
 obtain ⟨a, c, rfl, _⟩ := ho.sl encP_ok
 refine (pcompact_ok β a c B l w ho).mono ?_
 rintro _ w' ⟨m, rfl, h1, h2⟩
 exact ⟨h1, h2⟩
theorem pnormal_ok (w : World) (vl : Value) (l : List Perm) (hl : Rd encP 3 (Lt w.heap.size) w vl l) (nl : l.length ≤ 1100000) (ol : ∀ p ∈ l, (Perm.ok) p) : Ok Tryz.prog 117 #[vl] w fun v w' => Own encP 3 50 (Fsh w w') w' v (normS l) ∧ Ext False w w' := by
 obtain ⟨al, cl, rfl, hl⟩ := hl; have ml := hl.len
 refine Qv 30 func117 rfl rfl rfl ?_
 have hX := xRf w
 refine Qf (Qb (Rr Qj (Qc (Qf (Qb (Rr Qj (Qc (Qf (Qf (Qb (Rr (mvS rfl) (Rr (QC underlying158 rfl) (Rr QP (Qc (Qt (QU (α := Nat × Value) [(3, 3), (5, 5), (8, 25)] (fun p => [(8, .int .i64 (p.1 : Int)), (3, p.2)]) (fun p w' => (p.1 ≤ l.length) ∧ Bel False ((Ge w.heap.size)) w w' ∧ (Own encP 3 50 (Ge w.heap.size) w' p.2 ((l.take p.1).filter (keepS l)))) (fun p => l.length - p.1) (0, .slice none 0 0) ⟨rfl, rfl, trivial⟩ ⟨Nat.zero_le _, Bel.refl _ _, Own.nil _ _⟩ ?_))))))))))))))))
 rintro p fb3 w2 ⟨hk, hXL1, hown⟩
 have z4 := Bel.size hXL1
 replace hX := Bel.out hX hXL1 om2
 replace hl := hl.keep hXL1 om3
 refine Qf (Qb (Rr (QM rfl rfl) (Qc (Qf (Qw rfl (fun hc1 => ?_) (fun hc1 => ?_))))))
 ·replace hc1 := dcT hc1
  refine Qp (Qf (Qt (Qf (Qb (Rr (QW underlying158 sizeOf50 hl rfl rfl omg) (Rr (QY isAgg50 sizeOf50 hl rfl (Ze pz (by omega))) (Zk rfl rfl zeroValue50 rfl sizeOf50 (fun _ => rfl) rfl rfl ?_)))))))
  intro b5 w5 x6 hge5 hb5
  have hlt5 := hb5.lt
  have z7 := x6.size
  replace hXL1 := Bel.ex hXL1 x6
  replace hl := hl.ext x6
  replace hown := hown.ext x6
  refine Qc (Qf (Qb (Rr (QF isAgg50 sizeOf50 rfl hb5.at rfl) (Qo rfl (QD call45 rfl) (Ok.mono (Vd (False) _ (ol _ (getD_mem (by omega))) _) ?_)))))
  rintro _ w8 ⟨rfl, x9⟩
  have z10 := x9.size
  replace hXL1 := Bel.ex hXL1 x9
  replace hl := hl.ext x9
  replace hown := hown.ext x9
  replace hb5 := hb5.ext x9
  refine Rr (Zu rfl rfl) (Rr (mvB rfl) (Qs 3 15 rfl rfl rfl (fun hg => mvS rfl) (Qs 3 15 rfl rfl rfl (fun hg => o_fn1 rfl) (Zy 3 15 rfl rfl rfl (fun hg => ⟨(QB call174 (QK (u := undef) hg) (QK (u := undef) hg)), pcontf_ok (False) _ _ _ _ 175 #[.pointer (some ⟨b5, 0, none⟩)] (fun q => !(q == l.getD p.1 pz) && impliesS q (l.getD p.1 pz)) _ hl call175 (fun q hq w' hw' => norm1_ok False q (l.getD p.1 pz) b5 w' (ol q hq) (ol _ (getD_mem (by omega))) (hb5.at.ext hw'))⟩) ?_))))
  intro w11 x12
  have z13 := x12.size
  replace hXL1 := Bel.ex hXL1 x12
  replace hown := hown.ext x12
  replace hb5 := hb5.ext x12
  refine Qs 3 15 rfl rfl rfl (fun hg => Zp (QK (u := undef) hg)) (Rr (Zt (u := undef) rfl rfl) (Qc (Qw rfl (fun hc2 => ?_) (fun hc2 => ?_))))
  ·first | replace hc2 := dcT hc2 | replace hc2 := Zm hc2 | skip
   refine Qb (Rr (QG (v := p.2) rfl) (Rr (QF isAgg50 sizeOf50 rfl hb5.at rfl) (ZP (vs := [.agg _]) ([l.getD p.1 pz]) rfl encP_ok Y4 rfl rfl ⟨rfl, trivial⟩ rfl rfl rfl rfl ?_)))
   intro a23 w14 x15 hown23
   have z16 := x15.size
   replace hXL1 := Bel.ex hXL1 x15
   replace hown := hown.ext x15
   replace hown23 := hown23.mono (D' := fun g => w.heap.size ≤ g) (fun g h1 h2 => by omega)
   refine ZZ rfl encP_ok Y4 rfl rfl hown (hown23.slA encP_ok) rfl (by have := List.length_filter_le (keepS l) (l.take p.1); simp at this ⊢; omega) omU ?_
   intro v24 w17 x18 hown
   replace hXL1 := Bel.out hXL1 x18 om2
   refine Rr (QL (v := v24) rfl) (Qc (Qb (Rr (QO rfl rfl omg) (Rr (mvI rfl) (Qc ⟨(p.1 + 1, v24), ⟨sT, sT, trivial⟩, oT, ⟨?_, hXL1, ?_⟩, ?_⟩)))))
   ·show p.1 + 1 ≤ l.length; omega
   ·show Own _ _ _ _ _ _ ((l.take (p.1 + 1)).filter _); rw [filt_yes (z := pz) (by omega) hc2]; exact hown
   ·show l.length - (p.1 + 1) < _; omega
  first | replace hc2 := dcF hc2 | replace hc2 := Zo hc2 | skip
  refine Qp (Qb (Rr (QO rfl rfl omg) (Rr (mvI rfl) (Qc ⟨(p.1 + 1, p.2), ⟨sT, sT, trivial⟩, oT, ⟨?_, hXL1, ?_⟩, ?_⟩))))
  ·show p.1 + 1 ≤ l.length; omega
  ·show Own _ _ _ _ _ _ ((l.take (p.1 + 1)).filter _); rw [filt_no (z := pz) (by omega) hc2]; exact hown
  ·show l.length - (p.1 + 1) < _; omega
 rw [List.take_of_length_le (by have := dcF hc1; omega)] at hown
 refine QN (QI (Qf (Qb (Rr (QG (v := p.2) rfl) ?_))))
 refine Qo rfl (QB call177 rfl rfl) (Ok.mono (sortp_ok _ _ _ _ hown (by have := List.length_filter_le (keepS l) l; omega) (keepS_vp ol)) ?_)
 rintro _ w20 ⟨rfl, x21, l2, hperm, hpw, hown⟩
 replace hX := Bel.out hX x21 om2
 refine Qc (Qf (Qb (Rr (QG (v := p.2) rfl) (Qo rfl (QD call178 rfl) (Ok.mono (pcompactV_ok False _ _ _ _ hown) ?_)))))
 rintro v29 w23 ⟨hown, x24⟩
 replace hX := Bel.out hX x24 om2
 refine Rr (QL (v := v29) rfl) (Qc (Qu ⟨_, Qr rfl rfl, ?_⟩))
 rw [comp_insP (keepS_vp ol) hperm hpw] at hown
 exact ⟨hown.mono (fun g h1 h2 => by omega), hX⟩
