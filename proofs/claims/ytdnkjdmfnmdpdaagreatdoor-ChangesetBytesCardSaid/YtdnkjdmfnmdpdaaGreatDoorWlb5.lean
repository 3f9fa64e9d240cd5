/- Walks: what functions return. -/
import Derived.Test.YtdnkjdmfnmdpdaaGreatDoorWcb
import Derived.Test.YtdnkjdmfnmdpdaaGreatDoorWak5
import Derived.Test.YtdnkjdmfnmdpdaaGreatDoorWl50
import Derived.Test.YtdnkjdmfnmdpdaaGreatDoorWmk50
import Derived.Test.YtdnkjdmfnmdpdaaGreatDoorWmk24m
import Derived.Test.YtdnkjdmfnmdpdaaGreatDoorWrt
import Derived.Test.YtdnkjdmfnmdpdaaGreatDoorWlr5
set_option linter.unusedVariables false
set_option linter.unusedSimpArgs false
set_option linter.unnecessarySimpa false
namespace Go.Proofs.YtdnkjdmfnmdpdaaGreatDoor
open Go Go.Lx Go.RowKit Tryz
set_option maxRecDepth 100000
set_option maxHeartbeats 4000000 in
theorem law_ChangesetBytes (w : World) (hT : TbI w) (v0 : Value) (p : List UInt8) (hp0 : Rd encB 1 (Lt w.heap.size) w v0 p) (v1 : Value) (l : List RawC) (hl0 : Rd encRaw 6 (Lt w.heap.size) w v1 l) : Ok Tryz.prog 6 #[v0, v1] w fun v w' => v = .bool true ∧ Ext False w w' := by
 obtain ⟨ap, cpp, rfl, hp0⟩ := hp0; obtain ⟨ar, cr, rfl, hl0⟩ := hl0
 have hlp := hp0.len; have hll := hl0.len
 replace hp0 := hp0.mono (F' := fun g => g < w.heap.size) (fun g h1 h2 => h1)
 replace hl0 := hl0.mono (F' := fun g => g < w.heap.size) (fun g h1 h2 => h1)
 refine ZQ 64 func6 rfl rfl rfl ?_
 have hX := xRf w
 refine QH (Qc ?_)
 refine Rr Zi ?_
 refine Qg (QH (QH (Qc ?_)))
 refine ZC rfl (o_call0 call7) (Ok.mono (awake50_ok _) ?_)
 rintro _ w1 ⟨rfl, x2⟩
 replace hX := hX.ex x2
 replace hp0 := hp0.ext x2
 replace hl0 := hl0.ext x2
 replace hT := hT.keep x2 id
 refine Rr (Jf rfl) ?_
 refine Qg ?_
 refine ZY rfl ?_
 refine ZH (QH (Qc ?_))
 refine Rr (mvS rfl) ?_
 refine Rr (mvS rfl) ?_
 refine ZC rfl (ZK call9 rfl) (Ok.mono (make24_ok _ _ p _ ⟨_, _, rfl, hp0⟩) ?_)
 rintro v14 w3 ⟨hst14, x4⟩
 replace hX := hX.ex x4
 replace hl0 := hl0.ext x4
 replace hT := hT.keep x4 id
 obtain ⟨aU, nU, cU, aR, nR, cR, ad, aX, nX, cX, aY, nY, cY, aZ, nZ, cZ, aL, cL, L0, aM, cM, M0, aG, cG, G0, hv14, hL, hM, hG, hGk, hl1, hl2⟩ := hst14
 subst hv14
 refine ZC rfl (ZW call8 rfl rfl) (Ok.mono (make50_ok _ _ l _ _ _ ⟨_, _, rfl, hl0⟩ (st_pack hL hM hG hGk (by omega) (by omega))) ?_)
 rintro v15 w5 ⟨⟨O15, hown15, hO15, hOk15⟩, x6⟩
 replace hX := hX.ex x6
 replace hT := hT.keep x6 id
 refine ZC rfl (ZK call23 rfl) (Ok.mono (rset5_ok _ _ O15 (hown15.trd ZV) (by omega) (fun o ho => (hOk15 o ho).1)) ?_)
 rintro v16 w7 ⟨⟨X16, hvs16, hxl16, hown16⟩, x8⟩
 replace hX := hX.ex x8
 replace hT := hT.keep x8 id
 refine Rr (ZD (v := v16) rfl) ?_
 refine Qg (QH (Qc ?_))
 obtain ⟨a5q, c5q, hv5q, hs5q⟩ := hown16.sl ZV
 subst hv5q
 refine Rr (mvS rfl) ?_
 refine ZC rfl (ZK call25 rfl) (Ok.mono (lset_ok _ _ X16 hs5q.trd (by omega) hvs16) ?_)
 rintro _ w9 ⟨⟨a19, c19, rfl, hs19⟩, x10⟩
 replace hX := hX.ex x10
 replace hT := hT.keep x10 id
 replace hs5q := hs5q.ext x10
 refine Rr (Zt (v := .tuple _) rfl) ?_
 refine Rr (ZS rfl rfl) ?_
 refine Rr (ZS rfl rfl) ?_
 refine Z8 rfl rfl zeroValue63 rfl sizeOf63 (fun _ => rfl) rfl rfl ?_
 intro b6 w11 x12 hge6 hb6
 change Box _ _ _ (wsS _ _ _) at hb6
 replace hX := hX.ex x12
 replace hT := hT.keep x12 id
 replace hs5q := hs5q.ext x12
 replace hs19 := hs19.ext x12
 refine Rr (asB rfl) ?_
 refine Qg (QH (Qc ?_))
 refine Rr (mvS rfl) ?_
 refine ZC rfl (ZK call28 rfl) (Ok.mono (rbytes50_ok _ _ X16 _ hs5q.rd hvs16.v (by omega)) ?_)
 rintro v24 w13 ⟨hown24, x14⟩
 replace hX := hX.ex x14
 replace hT := hT.keep x14 id
 replace hs5q := hs5q.ext x14
 replace hs19 := hs19.ext x14
 replace hb6 := hb6.ext x14
 refine ZC rfl (ZK call29 rfl) (Ok.mono (cread_ok _ _ (obytes X16) _ (hown24.rd Z6) (by have := obytes_sh hvs16.v; omega)) ?_)
 rintro _ w15 ⟨⟨a25, c25, L25, e25, rfl, hs25, hok25⟩, x16⟩
 replace hX := hX.ex x16
 replace hT := hT.keep x16 id
 replace hs5q := hs5q.ext x16
 replace hs19 := hs19.ext x16
 replace hb6 := hb6.ext x16
 have hput := okR_put hvs16 (by omega)
 obtain ⟨he25, -, hL25⟩ := hok25.resolve_right (fun h => h.2.1 hput.1)
 rw [hput.2] at hL25
 subst he25
 replace hL25 := hL25.symm
 subst hL25
 refine Rr (Zt (v := .tuple _) rfl) ?_
 refine Rr (ZS rfl rfl) ?_
 refine Rr (ZS rfl rfl) ?_
 refine Z8 rfl rfl zeroValue63 rfl sizeOf63 (fun _ => rfl) rfl rfl ?_
 intro b8 w17 x18 hge8 hb8
 change Box _ _ _ (wsS _ _ _) at hb8
 replace hX := hX.ex x18
 replace hT := hT.keep x18 id
 replace hs5q := hs5q.ext x18
 replace hs19 := hs19.ext x18
 replace hb6 := hb6.ext x18
 replace hs25 := hs25.ext x18
 refine Rr (asI rfl) ?_
 refine Qg (QH (Qc ?_))
 refine Rr (mvB rfl) ?_
 refine Rr (mvB rfl) ?_
 refine ZP 1 29 rfl rfl ?_
 refine Rr (mvI rfl) ?_
 refine ZP 1 29 rfl rfl ?_
 refine Rr (ZZ rfl rfl) ?_
 refine Rr (Jt (v := .bool _) rfl rfl) ?_
 refine Rr (mvB rfl) ?_
 refine ZP 5 33 rfl rfl ?_
 refine Rr (ZO isAgg63 sizeOf63 rfl hb8.at rfl) ?_
 refine ZP 5 33 rfl rfl ?_
 refine Rr (ZO isAgg63 sizeOf63 rfl hb6.at rfl) ?_
 refine ZP 5 33 rfl rfl ?_
 refine ZC rfl (ZW call32 rfl rfl) (Ok.mono (csequal_ok a25 a19 c25 c19 _ _ X16 X16 _ hs25 hs19) ?_)
 rintro _ w19 ⟨rfl, x20⟩
 replace hX := hX.ex x20
 replace hT := hT.keep x20 id
 replace hs5q := hs5q.ext x20
 replace hs19 := hs19.ext x20
 replace hb6 := hb6.ext x20
 replace hs25 := hs25.ext x20
 replace hb8 := hb8.ext x20
 refine Rr (Jt (v := .bool _) rfl rfl) ?_
 refine Rr (mvB rfl) ?_
 refine ZP 10 38 rfl (cvB (beq_self_eq_true _)) ?_
 refine Rr (ZO isAgg63 sizeOf63 rfl hb6.at rfl) ?_
 refine ZP 10 38 rfl (cvB (beq_self_eq_true _)) ?_
 refine Rr (ZO isAgg63 sizeOf63 rfl hb8.at rfl) ?_
 refine ZP 10 38 rfl (cvB (beq_self_eq_true _)) ?_
 refine ZC rfl (ZW call32 rfl rfl) (Ok.mono (csequal_ok a19 a25 c19 c25 _ _ X16 X16 _ hs19 hs25) ?_)
 rintro _ w21 ⟨rfl, x22⟩
 replace hX := hX.ex x22
 replace hT := hT.keep x22 id
 replace hs5q := hs5q.ext x22
 replace hs19 := hs19.ext x22
 replace hb6 := hb6.ext x22
 refine Rr (Jt (v := .bool _) (cvB (beq_self_eq_true _)) rfl) ?_
 refine Rr (mvB rfl) ?_
 refine ZP 15 43 rfl (cvB (beq_self_eq_true _)) ?_
 refine Rr (ZO isAgg63 sizeOf63 rfl hb6.at rfl) ?_
 refine ZP 15 43 rfl (cvB (beq_self_eq_true _)) ?_
 refine ZC rfl (ZK call31 rfl) (Ok.mono (cbytes_ok a19 c19 _ X16 _ hs19 hvs16.v (by omega)) ?_)
 rintro v45 w23 ⟨hown45, x24⟩
 replace hX := hX.ex x24
 replace hT := hT.keep x24 id
 replace hs5q := hs5q.ext x24
 replace hs19 := hs19.ext x24
 replace hb6 := hb6.ext x24
 refine ZP 15 43 rfl (cvB (beq_self_eq_true _)) ?_
 refine Rr (mvS rfl) ?_
 refine ZP 15 43 rfl (cvB (beq_self_eq_true _)) ?_
 refine ZC rfl (ZK call28 rfl) (Ok.mono (rbytes50_ok _ _ X16 _ hs5q.rd hvs16.v (by omega)) ?_)
 rintro v47 w25 ⟨hown47, x26⟩
 replace hX := hX.ex x26
 replace hT := hT.keep x26 id
 replace hs5q := hs5q.ext x26
 replace hs19 := hs19.ext x26
 replace hb6 := hb6.ext x26
 replace hown45 := hown45.ext x26
 refine ZP 15 43 rfl (cvB (beq_self_eq_true _)) ?_
 refine ZC rfl (ZW call30 rfl rfl) (Ok.mono (ceqb_okV _ _ _ _ (obytes X16) (obytes X16) _ (hown45.rd Z6) (hown47.rd Z6)) ?_)
 rintro _ w27 ⟨rfl, x28⟩
 replace hX := hX.ex x28
 replace hT := hT.keep x28 id
 replace hs5q := hs5q.ext x28
 replace hs19 := hs19.ext x28
 replace hb6 := hb6.ext x28
 refine Rr (Jt (v := .bool _) (cvB (beq_self_eq_true _)) rfl) ?_
 refine Rr (mvB rfl) ?_
 refine ZP 22 50 rfl (cvB (beq_self_eq_true _)) ?_
 refine Rr (ZO isAgg63 sizeOf63 rfl hb6.at rfl) ?_
 refine ZP 22 50 rfl (cvB (beq_self_eq_true _)) ?_
 refine ZC rfl (ZK call33 rfl) (Ok.mono (ctextT_ok a19 c19 _ X16 _ hs19 hvs16.v (by omega) hT) ?_)
 rintro _ w29 ⟨rfl, x30⟩
 replace hX := hX.ex x30
 replace hs5q := hs5q.ext x30
 replace hs19 := hs19.ext x30
 replace hb6 := hb6.ext x30
 refine ZP 22 50 rfl (cvB (beq_self_eq_true _)) ?_
 refine Rr (mvS rfl) ?_
 refine ZP 22 50 rfl (cvB (beq_self_eq_true _)) ?_
 refine ZC rfl (ZK call34 rfl) (Ok.mono (rtext50_ok _ _ X16 _ hs5q.rd hvs16.v (by omega)) ?_)
 rintro _ w31 ⟨rfl, x32⟩
 replace hX := hX.ex x32
 replace hs5q := hs5q.ext x32
 replace hs19 := hs19.ext x32
 replace hb6 := hb6.ext x32
 refine ZP 22 50 rfl (cvB (beq_self_eq_true _)) ?_
 refine Rr (o_seql rfl rfl) ?_
 refine Rr (Jt (v := .bool _) (cvB (beq_self_eq_true _)) rfl) ?_
 refine Rr (mvB rfl) ?_
 refine ZP 29 57 rfl (cvB (beq_self_eq_true _)) ?_
 refine Rr (ZO isAgg63 sizeOf63 rfl hb6.at rfl) ?_
 refine ZP 29 57 rfl (cvB (beq_self_eq_true _)) ?_
 refine ZC rfl (ZK call35 rfl) (Ok.mono (cinv_ok a19 c19 _ X16 _ hs19 hvs16.v (cf_flip hvs16.cf) (by omega)) ?_)
 rintro _ w33 ⟨⟨a59, c59, rfl, hs59⟩, x34⟩
 replace hX := hX.ex x34
 replace hs5q := hs5q.ext x34
 refine ZP 29 57 rfl (cvB (beq_self_eq_true _)) ?_
 refine Rr (mvS rfl) ?_
 refine ZP 29 57 rfl (cvB (beq_self_eq_true _)) ?_
 refine ZC rfl (ZK call36 rfl) (Ok.mono (rinv50_ok _ _ X16 _ hs5q.rd (fun x hx => (hvs16.v x hx).ok) (by omega)) ?_)
 rintro v61 w35 ⟨hown61, x36⟩
 replace hX := hX.ex x36
 replace hs59 := hs59.ext x36
 refine ZP 29 57 rfl (cvB (beq_self_eq_true _)) ?_
 refine ZC rfl (ZW call19 rfl rfl) (Ok.mono (lsame_ok a59 c59 _ (invO X16) _ hs59 v61 (invO X16) (hown61.trd ZV) (by rw [inv_len]; omega) (by rw [inv_len]; omega) (fun x hx => by have := (inv_vo hvs16 x hx).rng; omega)) ?_)
 rintro _ w37 ⟨rfl, x38⟩
 replace hX := hX.ex x38
 refine Rr (Jt (v := .bool _) (cvB (beq_self_eq_true _)) rfl) ?_
 refine Rr (asB rfl) ?_
 refine Qg (ZJ ?_)
 refine ⟨_, ZF rfl rfl, ?_⟩
 refine ⟨cvB ?_, hX⟩
 all_goals (exact beq_self_eq_true _)

