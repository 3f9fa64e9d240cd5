/- Walks: what functions return. -/
import Derived.Test.YtjnjalalkbamkaaGreatDoorWbits
import Derived.Test.YtjnjalalkbamkaaGreatDoorOwn2
import Derived.Test.YtjnjalalkbamkaaGreatDoorLk
import Derived.Test.YtjnjalalkbamkaaGreatDoorGi
set_option linter.unusedVariables false
set_option linter.unusedSimpArgs false
set_option linter.unnecessarySimpa false
namespace Go.Proofs.YtjnjalalkbamkaaGreatDoor
open Go Go.Lx Go.RowKit Tryz
set_option maxRecDepth 100000
theorem gclone_ok (w : World) (vl : Value) (l : List Ent) (hl : Rd encE 4 (Lt w.heap.size) w vl l) (nl : l.length ≤ 100000) : Ok Tryz.prog 164 #[vl] w fun v w' => Own encE 4 218 (Fsh w w') w' v (l) ∧ Ext False w w' := by
 obtain ⟨al, cl, rfl, hl⟩ := hl; have ml := hl.len
 refine Qz 8 func164 rfl rfl rfl ?_
 have hX := xRf w
 refine Qe (Qc ?_)
 refine Rr Qm ?_
 refine Qd (Qe (Qe (Qc ?_)))
 refine Rr (mvS rfl) ?_
 refine Rr (o_lnil underlying173 rfl) ?_
 refine Qd ?_
 refine QD rfl (fun hc1 => ?_) (fun hc1 => ?_)
 ·have hnl := sl_none hl hc1; subst hnl
  refine Qe (Qc ?_)
  refine Rr Qm ?_
  refine Qd (Qy ?_)
  refine ⟨_, Qp rfl rfl, ?_⟩
  exact ⟨Own.nil _ _, hX⟩
 refine Qu (Qe (Qc ?_))
 refine Rg_bs (vs := []) (([] : List Ent)) rfl encE_ok el_ent rfl rfl trivial rfl rfl rfl rfl ?_
 intro a5 w1 x2 hown5
 have z3 := x2.size
 replace hX := hX.ex x2
 replace hl := hl.ext x2
 replace hown5 := hown5.mono (D' := fun g => w.heap.size ≤ g) (fun g h1 h2 => by omega)
 refine Rr (mvS rfl) ?_
 refine Rg_app rfl encE_ok el_ent rfl rfl hown5 hl rfl (by simp; omega) omU ?_
 intro v7 w4 x5 hown5
 have z6 := x5.size
 replace hX := Bel.out hX x5 om2
 refine Rr (Qv (v := v7) rfl) ?_
 refine Qd (Qy ?_)
 refine ⟨_, Qp rfl rfl, ?_⟩
 rw [List.nil_append] at hown5; exact ⟨hown5.mono (fun g h1 h2 => by omega), hX⟩

