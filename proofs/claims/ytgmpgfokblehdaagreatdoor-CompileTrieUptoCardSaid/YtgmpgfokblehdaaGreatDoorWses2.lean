/- Walks: what functions return. -/
import Derived.Test.YtgmpgfokblehdaaGreatDoorWses
set_option linter.unusedVariables false
set_option linter.unusedSimpArgs false
set_option linter.unnecessarySimpa false
namespace Go.Proofs.YtgmpgfokblehdaaGreatDoor
open Go Go.Lx Go.RowKit Tryz
set_option maxRecDepth 100000
theorem Vk (v0 : Value) (m : List RS) (w : World) (hb0 : BkIs w v0 m) (hm : OkM m) : Ok Tryz.prog 112 #[v0] w fun v w' => (∃ l, Own encSe 3 145 (Fsh w w') w' v l ∧ SesAt (Lt w'.heap.size) w' l ∧ l.map SE.rs = m) ∧ Ext False w w' := by
 obtain ⟨pb, b, rfl, hb, rfl⟩ := hb0
 have hba := hb.at'
 have hbl := hb.lt
 have hml := b.mlen
 have hlen : b.l.length ≤ 64 := by have := hm.len; omega
 refine Qv 10 func112 rfl rfl rfl ?_
 have hX := xRf w
 refine Qf (Qb (Rr Qj (Qc (Qf (Qf (Qb (Rr (mvP rfl) (Rr (Zi underlying37 rfl rfl) (Qc (Qq rfl (Qp (Qf (Qb (Rr (mvP rfl) (Rr (QJ rfl) (Rr (Qy underlying143 rfl sizeOf141 rfl) (Rr (Qm isAgg141 rfl (hba.get 0 rfl)) (Qo rfl (QD call62 rfl) (Ok.mono (sclone_ok _ _ _ hb.sl.trd (by omega)) ?_)))))))))))))))))))
 rintro v9 w1 ⟨hown9, x2⟩
 replace hX := hX.ex x2
 replace hb := hb.ext x2
 replace hown9 := hown9.mono (D' := fun g => w.heap.size ≤ g) (fun g h1 h2 => by omega)
 exact Rr (QL (v := v9) rfl) (Qc (Qu ⟨_, Qr rfl rfl, ⟨⟨b.l, hown9.mono (fun g h1 h2 => ⟨by omega, by omega⟩), hb.ws.top, rfl⟩, hX⟩⟩))
theorem snew_ok (w : World) : Ok Tryz.prog 38 #[] w fun v w' => BkIs w' v [] ∧ Ext False w w' := by
 refine Qv 3 func38 rfl rfl rfl ?_
 have hX := xRf w
 refine Qf (Qb (Rr Qj (Qc (Qf (Qb (Rr (Q2 (cells := [.slice none 0 0]) (vs := []) rfl (by kernel_rfl)) (QH rfl (QX (v := .agg _) rfl) ?_)))))))
 intro b2 w1 x2 hge2 hb2
 replace hX := hX.ex x2
 refine Rr (asP rfl) (Qc (Qu ⟨_, Qr rfl rfl, ?_⟩))
 change Box _ _ _ [.slice none 0 0] at hb2
 exact ⟨bk_new (l := []) (e := 145) (D := fun _ => True) (F := fun _ => True) hb2 rfl (Own.nil _ _) SesAt.nil rfl, hX⟩
