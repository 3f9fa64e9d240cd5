/- Walks: what functions return. -/
import Derived.Test.YtgmpgfokblehdaaGreatDoorWref11b
set_option linter.unusedVariables false
set_option linter.unusedSimpArgs false
set_option linter.unnecessarySimpa false
namespace Go.Proofs.YtgmpgfokblehdaaGreatDoor
open Go Go.Lx Go.RowKit Tryz
set_option maxRecDepth 100000
theorem raction_ok (β : Prop) (w : World) (n : UInt8) : Ok Tryz.prog 78 #[.int .u8 (n.toNat : Int)] w fun v w' => v = str (actionS n) ∧ Ext β w w' := by
 refine Qv 13 func78 rfl rfl rfl ?_
 have hX : Ext β w w := Bel.refl _ _
 refine Qf (Qb (Rr Qj (Qc (Qf (Qb (ZP (vs := [str _, str _, str _, str _, str _, str _, str _, str _, str _, str _]) (actions) rfl Q5 ZC rfl rfl ⟨rfl, ⟨rfl, ⟨rfl, ⟨rfl, ⟨rfl, ⟨rfl, ⟨rfl, ⟨rfl, ⟨rfl, ⟨rfl, trivial⟩⟩⟩⟩⟩⟩⟩⟩⟩⟩ rfl rfl rfl rfl ?_))))))
 intro a4 w1 x2 hown4
 replace hX := hX.ex x2
 replace hown4 := hown4.mono (D' := fun g => w.heap.size ≤ g) (fun g h1 h2 => by omega)
 refine Rr (asS rfl) (Qc (Qf (Qb (Rr (mvS rfl) (Rr (mvI rfl) (Rr (o_convS underlying5 underlying3 rfl (wrapB n)) (Rr (mvS rfl) (Rr (QC underlying23 rfl) ?_))))))))
 refine Rr (o_remN (a := n.toNat) (b := 10) rfl rfl (by decide) (by have := n.toNat_lt; omega)) ?_
 refine Rr (ZE (i := n.toNat % 10) underlying23 sizeOf9 hown4 rfl rfl (Nat.mod_lt _ (by decide))) (Rr (Zx isAgg9 (hown4.slA Q5) rfl rfl (Ze [] (Nat.mod_lt _ (by decide))) rfl) (Rr (asT rfl) (Qc (Qu ⟨_, Qr rfl rfl, ⟨congrArg str ?_, hX⟩⟩))))
 all_goals (rfl)
theorem rpath_ok (w : World) (vl : Value) (l : List UInt8) (hl : Rd encB 1 (Lt w.heap.size) w vl l) : Ok Tryz.prog 79 #[vl] w fun v w' => v = str (pathS l) ∧ Ext False w w' := by
 obtain ⟨al, cl, rfl, hl⟩ := hl; have ml := hl.len
 refine Qv 33 func79 rfl rfl rfl ?_
 have hX := xRf w
 refine Qf (Qb (Rr Qj (Qc (Qf (Qb (ZP (vs := [str _, str _, str _, str _, str _, str _, str _, str _, str _, str _, str _, str _, str _, str _]) (pieces) rfl Q5 ZC rfl rfl ⟨rfl, ⟨rfl, ⟨rfl, ⟨rfl, ⟨rfl, ⟨rfl, ⟨rfl, ⟨rfl, ⟨rfl, ⟨rfl, ⟨rfl, ⟨rfl, ⟨rfl, ⟨rfl, trivial⟩⟩⟩⟩⟩⟩⟩⟩⟩⟩⟩⟩⟩⟩ rfl rfl rfl rfl ?_))))))
 intro a6 w1 x2 hown6
 have z3 := x2.size
 replace hX := hX.ex x2
 replace hl := hl.ext x2
 refine Rr (asS rfl) (Qc (Qf (Qb (Rr Qj (Qc (Qf (Qf (Qb (Rr Qj (Qc (Qt (QU (α := Nat × Value) [(4, 5), (7, 30)] (fun q => [(5, .int .i64 (q.1 : Int)), (4, q.2)]) (fun q w' => (q.1 ≤ l.length ∧ q.1 ≤ 10) ∧ Bel False (fun g => w1.heap.size ≤ g) w1 w' ∧ (Own encS 1 9 (fun g => w1.heap.size ≤ g) w' q.2 ((l.take q.1).map pieceS))) (fun q => l.length - q.1) (0, .slice none 0 0) ⟨rfl, rfl, trivial⟩ ⟨⟨Nat.zero_le _, Nat.zero_le _⟩, Bel.refl _ _, Own.nil _ _⟩ ?_))))))))))))
 rintro ⟨k, u⟩ fb6 w5 ⟨⟨hk, hk2⟩, hXL4, hown⟩
 dsimp only at *
 have z7 := Bel.size hXL4
 replace hX := Bel.out hX hXL4 om2
 replace hl := hl.keep hXL4 om3
 replace hown6 := hown6.keepD hXL4 om3
 refine Qf (Qf (Qb (Rr (mvI rfl) (Rr (mvS rfl) (Rr (QC underlying81 rfl) (Rr (QM rfl rfl) (Rr (mvB rfl) (Qs 4 11 rfl rfl rfl (fun hg => mvI rfl) (Qs 4 11 rfl rfl rfl (fun hg => QM (QK (u := undef) hg) rfl) (Rr (Zt (u := undef) rfl rfl) (Qc (Qw rfl (fun hc1 => ?_) (fun hc1 => ?_)))))))))))))
 ·have hlt : k < l.length ∧ k < 10 := by simp at hc1; omega
  refine Qp (Qf (Qt (Qb (Rr (QG (v := u) rfl) (Rr (mvS rfl) (Rr (mvS rfl) (Rr (mvI rfl) (Rr (QW underlying81 sizeOf5 hl rfl rfl omg) (Rr (Zx isAgg5 hl rfl rfl (Ze 0 (by omega)) rfl) (Rr (o_convS underlying5 underlying3 rfl (wrapB _)) (Rr (mvS rfl) (Rr (QC underlying23 rfl) ?_))))))))))))
  refine Rr (o_remN (a := (l.getD k 0).toNat) (b := 14) rfl rfl (by decide) (by have := (l.getD k 0).toNat_lt; omega)) ?_
  refine Rr (ZE (i := (l.getD k 0).toNat % 14) underlying23 sizeOf9 hown6 rfl rfl (Nat.mod_lt _ (by decide))) (Rr (Zx isAgg9 (hown6.slA Q5) rfl rfl (Ze [] (Nat.mod_lt _ (by decide))) rfl) (ZP (vs := [str _]) ([pieceS (l.getD k 0)]) rfl Q5 ZC rfl rfl ⟨rfl, trivial⟩ rfl rfl rfl rfl ?_))
  intro a29 w8 x9 hown29
  have z10 := x9.size
  replace hXL4 := Bel.ex hXL4 x9
  replace hown := hown.ext x9
  replace hown29 := hown29.mono (D' := fun g => w1.heap.size ≤ g) (fun g h1 h2 => by omega)
  refine ZZ rfl Q5 ZC rfl rfl hown (hown29.slA Q5) rfl (by simp; omega) omU ?_
  intro v30 w11 x12 hown
  replace hXL4 := Bel.out hXL4 x12 om2
  refine Rr (QL (v := v30) rfl) (Qc (Qb (Rr (mvI rfl) ?_)))
  refine Rr (QO rfl rfl (by unfold I64; omega)) ?_
  refine Rr (asI rfl) (Qc ⟨(k + 1, v30), ⟨sT, sT, trivial⟩, oT, ⟨?_, hXL4, ?_⟩, ?_⟩)
  ·exact ⟨by omega, by omega⟩
  ·rw [map_take1 (by omega)]; exact hown
  ·show l.length - (k + 1) < l.length - k; omega
 have hge : ¬ (k < l.length ∧ k < 10) := by simp at hc1; omega
 refine QN (QI (Qf (Qb (Rr (QG (v := u) rfl) ?_))))
 refine Qo rfl (QD call140 rfl) (Ok.mono (rjoin_ok (False) _ _ _ (hown.trd Q5) (by simp; omega) (fun p hp => piece_mem hp) (by rw [← path_end hk hk2 hge]; have := pathS_len l; omega)) ?_)
 rintro _ w14 ⟨rfl, x15⟩
 replace hX := hX.ex x15
 refine Rr (asT rfl) (Qc (Qu ⟨_, Qr rfl rfl, ⟨congrArg str ?_, hX⟩⟩))
 all_goals (exact (path_end hk hk2 hge).symm)
