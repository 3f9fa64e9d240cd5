/- Walks: what functions return. -/
import Derived.Test.YtjnjalalkbamkaaGreatDoorWses
import Derived.Test.YtjnjalalkbamkaaGreatDoorWod
set_option linter.unusedVariables false
set_option linter.unusedSimpArgs false
set_option linter.unnecessarySimpa false
namespace Go.Proofs.YtjnjalalkbamkaaGreatDoor
open Go Go.Lx Go.RowKit Tryz
set_option maxRecDepth 100000
theorem slist_ok (v0 : Value) (m : List RS) (w : World) (hb0 : BkIs w v0 m) (hm : OkM m) : Ok Tryz.prog 139 #[v0] w fun v w' => (∃ l, Own encSe 3 221 (Fsh w w') w' v l ∧ SesAt (Lt w'.heap.size) w' l ∧ l.map SE.rs = m) ∧ Ext False w w' := by
 obtain ⟨pb, b, rfl, hb, rfl⟩ := hb0
 have hba := hb.at'
 have hbl := hb.lt
 have hml := b.mlen
 have hlen : b.l.length ≤ 64 := by have := hm.len; omega
 refine Qz 10 func139 rfl rfl rfl ?_
 have hX := xRf w
 refine Qe (Qc ?_)
 refine Rr Qm ?_
 refine Qd (Qe (Qe (Qc ?_)))
 refine Rr (Ql (v := .pointer _) rfl) ?_
 refine Rr (o_peq underlying89 rfl rfl) ?_
 refine Qd ?_
 refine Qr rfl ?_
 refine Qu (Qe (Qc ?_))
 refine Rr (Ql (v := .pointer _) rfl) ?_
 refine Rr (QG rfl) ?_
 refine Rr (Qx underlying178 rfl sizeOf176 rfl) ?_
 refine Rr (Qn isAgg176 rfl (hba.get 0 rfl)) ?_
 refine Qo rfl (QA call165 rfl) (Ok.mono (sclone_ok _ _ _ hb.sl.trd (by omega)) ?_)
 rintro v9 w1 ⟨hown9, x2⟩
 have z3 := x2.size
 replace hX := hX.ex x2
 replace hb := hb.ext x2
 replace hown9 := hown9.mono (D' := fun g => w.heap.size ≤ g) (fun g h1 h2 => by omega)
 refine Rr (Qv (v := v9) rfl) ?_
 refine Qd (Qy ?_)
 refine ⟨_, Qp rfl rfl, ?_⟩
 exact ⟨⟨b.l, hown9.mono (fun g h1 h2 => ⟨by omega, by omega⟩), hb.ws.top, rfl⟩, hX⟩

theorem snew_ok (w : World) : Ok Tryz.prog 71 #[] w fun v w' => BkIs w' v [] ∧ Ext False w w' := by
 refine Qz 3 func71 rfl rfl rfl ?_
 have hX := xRf w
 refine Qe (Qc ?_)
 refine Rr Qm ?_
 refine Qd (Qe (Qc ?_))
 refine Rr (QZ (cells := [.slice none 0 0]) (vs := []) rfl (by kernel_rfl)) ?_
 refine QJ rfl (Q4 (v := .agg _) rfl) ?_
 intro b2 w1 x2 hge2 hb2
 have hlt2 := hb2.lt
 have z3 := x2.size
 replace hX := hX.ex x2
 refine Rr (Qv (v := .pointer _) rfl) ?_
 refine Qd (Qy ?_)
 refine ⟨_, Qp rfl rfl, ?_⟩
 change Box _ _ _ [.slice none 0 0] at hb2
 exact ⟨bk_new (l := []) (e := 221) (D := fun _ => True) (F := fun _ => True) hb2 rfl (Own.nil _ _) SesAt.nil rfl, hX⟩

