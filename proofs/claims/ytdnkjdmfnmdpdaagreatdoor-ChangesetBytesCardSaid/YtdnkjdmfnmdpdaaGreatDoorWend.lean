/- Walks: what functions return. -/
import Derived.Test.YtdnkjdmfnmdpdaaGreatDoorSu
import Derived.Test.YtdnkjdmfnmdpdaaGreatDoorWref50
import Derived.Test.YtdnkjdmfnmdpdaaGreatDoorWmk24
import Derived.Test.YtdnkjdmfnmdpdaaGreatDoorWthg
set_option linter.unusedVariables false
set_option linter.unusedSimpArgs false
set_option linter.unnecessarySimpa false
namespace Go.Proofs.YtdnkjdmfnmdpdaaGreatDoor
open Go Go.Lx Go.RowKit Tryz
set_option maxRecDepth 100000
theorem rflip_ok (o : COp) (w : World) : Ok Tryz.prog 63 #[.agg (encRo o).toArray] w fun v w' => v = .agg (encRo (flipO o)).toArray ∧ Ext False w w' := by
 refine ZQ 8 func63 rfl rfl rfl ?_
 have hX := xRf w
 refine QH (Qc ?_)
 refine Z2 rfl (JB (v := .agg _) rfl) ?_
 intro b1 w1 x2 hge1 hb1
 have hlt1 := hb1.lt
 change Box _ _ _ (id _) at hb1
 have z3 := x2.size
 replace hX := hX.ex x2
 refine Z2 rfl (JK zeroValue44) ?_
 intro b2 w4 x5 hge2 hb2
 have hlt2 := hb2.lt
 change Box _ _ _ ([.bool _, .int _ _, .int _ _, .int _ _, .int _ _, str _, str _, .bool _]) at hb2
 have z6 := x5.size
 replace hX := hX.ex x5
 replace hb1 := hb1.ext x5
 refine Qg (QH (Qc ?_))
 refine Rr (ZN underlying44 rfl sizeOf4 rfl) ?_
 refine Rr (ZB isAgg4 rfl (hb1.at.get 0 rfl)) ?_
 refine Rr (Jf rfl) ?_
 refine Rr (ZN underlying44 rfl sizeOf4 rfl) ?_
 refine Jb (v := .bool _) rfl sizeOf4 rfl rfl hb1 rfl rfl rfl ?_
 intro w7 c8 hb1
 change Box _ _ _ ([.bool _, .int _ _, .int _ _, .int _ _, .int _ _, str _, str _, .bool _]) at hb1
 have z9 := Bel.size c8
 replace hX := Bel.out hX c8 om2
 replace hb2 := hb2.keep c8 om1
 refine Qg (QH (Qc ?_))
 refine Rr (ZO isAgg44 sizeOf44 rfl hb1.at rfl) ?_
 refine Ja (v := .agg _) rfl sizeOf44 rfl rfl hb2 rfl rfl rfl ?_
 intro w10 c11 hb2
 change Box _ _ _ (id _) at hb2
 have z12 := Bel.size c11
 replace hX := Bel.out hX c11 om2
 refine Qg (ZJ ?_)
 refine ⟨_, res_1 (v := .agg _) rfl (Ju isAgg44 sizeOf44 rfl hb2.at rfl), ?_⟩
 exact ⟨rfl, hX⟩

