/- Walks: what functions return. -/
import Derived.Test.YtjnjalalkbamkaaGreatDoorWbits
import Derived.Test.YtjnjalalkbamkaaGreatDoorWpr
import Derived.Test.YtjnjalalkbamkaaGreatDoorRng
set_option linter.unusedVariables false
set_option linter.unusedSimpArgs false
set_option linter.unnecessarySimpa false
namespace Go.Proofs.YtjnjalalkbamkaaGreatDoor
open Go Go.Lx Go.RowKit Tryz
set_option maxRecDepth 100000
theorem el_set : ElT Tryz.prog 206 45 1 24 (.agg #[.slice none 0 0]) := ⟨underlying206, ⟨Tryz.t45, by kernel_rfl, rfl, rfl, rfl⟩, rfl, by decide, by decide⟩
theorem opairs_ok (w : World) (po : Nat) (o : OV) (Fo : Nat → Prop) (ho : OdAt Fo w po o) (hn : o.pairs.length ≤ 1000000) : Ok Tryz.prog 163 #[.pointer (some ⟨po, 0, none⟩)] w fun v w' => Own encPr 2 47 (Fsh w w') w' v o.pairs ∧ Ext False w w' := by
 replace ho := ho.mono (F' := fun g => Fo g ∧ g < w.heap.size) (fun g h1 h2 => ⟨h2, h1⟩)
 have hoa := ho.at'
 have hol := ho.lt
 refine Qz 10 func163 rfl rfl rfl ?_
 have hX := xRf w
 refine Qe (Qc ?_)
 refine Rr Qm ?_
 refine Qd (Qe (Qe (Qc ?_)))
 refine Rr (Ql (v := .pointer _) rfl) ?_
 refine Rr (o_peq underlying168 rfl rfl) ?_
 refine Qd ?_
 refine Qr rfl ?_
 refine Qu (Qe (Qc ?_))
 refine Rr (Ql (v := .pointer _) rfl) ?_
 refine Rr (QG rfl) ?_
 refine Rr (Qx underlying208 rfl sizeOf48 rfl) ?_
 refine Rr (Qn isAgg48 rfl (hoa.get 1 rfl)) ?_
 refine Qo rfl (QA call186 rfl) (Ok.mono (pclone_ok _ _ _ (ho.pr.trd.top) hn) ?_)
 rintro v9 w1 ⟨hown9, x2⟩
 have z3 := x2.size
 replace hX := hX.ex x2
 replace hown9 := hown9.mono (D' := fun g => w.heap.size ≤ g) (fun g h1 h2 => by omega)
 refine Rr (Qv (v := v9) rfl) ?_
 refine Qd (Qy ?_)
 refine ⟨_, Qp rfl rfl, ?_⟩
 exact ⟨hown9.mono (fun g h1 h2 => ⟨by omega, by omega⟩), hX⟩

