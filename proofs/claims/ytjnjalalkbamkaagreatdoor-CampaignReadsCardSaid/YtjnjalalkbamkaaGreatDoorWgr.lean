/- Walks: what functions return. -/
import Derived.Test.YtjnjalalkbamkaaGreatDoorWgsl
set_option linter.unusedVariables false
set_option linter.unusedSimpArgs false
set_option linter.unnecessarySimpa false
namespace Go.Proofs.YtjnjalalkbamkaaGreatDoor
open Go Go.Lx Go.RowKit Tryz
set_option maxRecDepth 100000
theorem gnew_ok (w : World) : Ok Tryz.prog 70 #[] w fun v w' => ∃ p, v = .pointer (some ⟨p, 0, none⟩) ∧ GbIs w' (.pointer (some ⟨p, 0, none⟩)) [] ∧ Ext False w w' := by
 refine Qz 3 func70 rfl rfl rfl ?_
 have hX := xRf w
 refine Qe (Qc ?_)
 refine Rr Qm ?_
 refine Qd (Qe (Qc ?_))
 refine Rr (QZ (cells := [.slice none 0 0]) (vs := []) rfl (by kernel_rfl)) ?_
 refine QJ rfl (Q4 (v := .agg _) rfl) ?_
 intro b2 w1 x2 hge2 hb2
 have hlt2 := hb2.lt
 have z3 := x2.size
 replace hX := hX.ex x2
 refine Rr (Qv (v := .pointer _) rfl) ?_
 refine Qd (Qy ?_)
 refine ⟨_, Qp rfl rfl, ?_⟩
 change Box _ _ _ [.slice none 0 0] at hb2
 exact ⟨b2, rfl, gb_nil hb2, hX⟩

theorem gents_ok (v0 : Value) (m : List Ent) (w : World) (hb0 : GbIs w v0 m) (hm : OkG m) : Ok Tryz.prog 138 #[v0] w fun v w' => Own encE 4 218 (Fsh w w') w' v m ∧ Ext False w w' := by
 obtain ⟨pb, ab, cb, rfl, hba, hb⟩ := hb0
 have hbl := hba.lt
 have hlen : m.length ≤ 1000 := hm.len
 refine Qz 10 func138 rfl rfl rfl ?_
 have hX := xRf w
 refine Qe (Qc ?_)
 refine Rr Qm ?_
 refine Qd (Qe (Qe (Qc ?_)))
 refine Rr (Ql (v := .pointer _) rfl) ?_
 refine Rr (o_peq underlying86 rfl rfl) ?_
 refine Qd ?_
 refine Qr rfl ?_
 refine Qu (Qe (Qc ?_))
 refine Rr (Ql (v := .pointer _) rfl) ?_
 refine Rr (QG rfl) ?_
 refine Rr (Qx underlying175 rfl sizeOf173 rfl) ?_
 refine Rr (Qn isAgg173 rfl (hba.get 0 rfl)) ?_
 refine Qo rfl (QA call164 rfl) (Ok.mono (gclone_ok _ _ _ hb.trd (by omega)) ?_)
 rintro v9 w1 ⟨hown9, x2⟩
 have z3 := x2.size
 replace hX := hX.ex x2
 replace hown9 := hown9.mono (D' := fun g => w.heap.size ≤ g) (fun g h1 h2 => by omega)
 refine Rr (Qv (v := v9) rfl) ?_
 refine Qd (Qy ?_)
 refine ⟨_, Qp rfl rfl, ?_⟩
 exact ⟨hown9.mono (fun g h1 h2 => ⟨by omega, by omega⟩), hX⟩

