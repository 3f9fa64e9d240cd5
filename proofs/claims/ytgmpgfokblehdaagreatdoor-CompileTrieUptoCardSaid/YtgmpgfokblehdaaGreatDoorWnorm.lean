/- Walks: what functions return. -/
import Derived.Test.YtgmpgfokblehdaaGreatDoorWperm
set_option linter.unusedVariables false
set_option linter.unusedSimpArgs false
set_option linter.unnecessarySimpa false
namespace Go.Proofs.YtgmpgfokblehdaaGreatDoor
open Go Go.Lx Go.RowKit Tryz
set_option maxRecDepth 100000
theorem pidxf_ok (β : Prop) (a : Option Addr) (c : Nat) (B : Nat → Prop) (l : List Perm) (fid : FuncId) (cs : Array Value) (p : Perm → Bool) (w : World) (hs : Sl encP 3 B w a c l) (hent : ∀ args w, (callFunc fid args).run Tryz.prog w = .ok (.enter fid args) w) (hp : ∀ x ∈ l, ∀ w', Ext β w w' → Ok Tryz.prog fid (#[.agg (encP x).toArray] ++ cs) w' fun v w'' => v = .bool (p x) ∧ Ext β w' w'') : Ok Tryz.prog 210 #[.slice a l.length c, .func (.func fid) #[] cs] w fun v w' => v = .int .i64 (ixOf p l) ∧ Ext β w w' := by
 have hlen := hs.len
 refine Qv 19 func210 rfl rfl rfl ?_
 have hX : Ext β w w := Bel.refl _ _
 refine Qf (Qb (Rr Qj (Qc (Qf (Qf (Qb (Rr (mvS rfl) (Rr (QC underlying158 rfl) (Rr QP (Qc (Qt ?_)))))))))))
 refine QU (α := Nat) [(4, 5), (8, 18)] (fun k => [(8, .int .i64 (k : Int))]) (fun k w' => (k ≤ l.length ∧ (l.take k).any p = false) ∧ Ext β w w') (fun k => l.length - k) 0 ⟨rfl, trivial⟩ ⟨⟨by omega, by simp⟩, Bel.refl _ _⟩ ?_
 rintro k fb3 w2 ⟨⟨hk, hall⟩, hXL1⟩
 replace hX := hX.ex hXL1
 replace hs := hs.ext hXL1
 refine Qf (Qb (Rr (QM rfl rfl) (Qc (Qf (Qw rfl (fun hc1 => ?_) (fun hc1 => ?_))))))
 ·first | replace hc1 := dcT hc1 | replace hc1 := Zm hc1 | skip
  refine Qp (Qf (Qt (Qf (Qb (Rr (mvI rfl) (Rr (asI rfl) (Qc (Qf (Qb (Rr (QG (v := .func _ _ _) rfl) (Rr (mvS rfl) (Rr (mvI rfl) (Rr (QW underlying158 sizeOf50 hs rfl rfl omg) (Rr (QY isAgg50 sizeOf50 hs rfl (getElem?_of (by first | omega | assumption))) ?_))))))))))))))
  refine Qo rfl (o_clo1 hent rfl rfl) (Ok.mono (hp _ (List.getElem_mem _) _ hX) ?_)
  rintro _ w4 ⟨rfl, x5⟩
  replace hX := hX.ex x5
  replace hXL1 := Bel.ex hXL1 x5
  refine Qc (Qw rfl (fun hc2 => ?_) (fun hc2 => ?_))
  ·first | replace hc2 := dcT hc2 | replace hc2 := Zm hc2 | skip
   refine Qf (Qb (Rr (mvI rfl) (Rr (asI rfl) (Qc (Qu ⟨_, Qr rfl rfl, ⟨congrArg (Value.int .i64) ?_, hX⟩⟩)))))
   all_goals (exact (YH (by omega) hall hc2).symm)
  first | replace hc2 := dcF hc2 | replace hc2 := Zo hc2 | skip
  refine Qp (Qb (Rr (QO rfl rfl omg) (Rr (mvI rfl) (Qc ⟨k + 1, ⟨sT, trivial⟩, oT, ⟨?_, hXL1⟩, ?_⟩))))
  ·exact ⟨by omega, Jd (by omega) hall hc2⟩
  ·omega
 first | replace hc1 := dcF hc1 | replace hc1 := Zo hc1 | skip
 refine QN (QI (Qf (Qb (Rr Qj (Qc (Qu ⟨_, Qr rfl rfl, ⟨congrArg (Value.int .i64) ?_, hX⟩⟩))))))
 all_goals (exact (Jo (k := k) (by omega) hall).symm)
theorem pcontf_ok (β : Prop) (a : Option Addr) (c : Nat) (B : Nat → Prop) (l : List Perm) (fid : FuncId) (cs : Array Value) (p : Perm → Bool) (w : World) (hs : Sl encP 3 B w a c l) (hent : ∀ args w, (callFunc fid args).run Tryz.prog w = .ok (.enter fid args) w) (hp : ∀ x ∈ l, ∀ w', Ext β w w' → Ok Tryz.prog fid (#[.agg (encP x).toArray] ++ cs) w' fun v w'' => v = .bool (p x) ∧ Ext β w' w'') : Ok Tryz.prog 174 #[.slice a l.length c, .func (.func fid) #[] cs] w fun v w' => v = .bool (l.any p) ∧ Ext β w w' := by
 refine Qv 9 func174 rfl rfl rfl ?_
 have hX : Ext β w w := Bel.refl _ _
 refine Qf (Qb (Rr Qj (Qc (Qf (Qb (Rr (mvS rfl) (Rr (QG (v := .func _ _ _) rfl) (Qo rfl (QB call210 rfl rfl) (Ok.mono (pidxf_ok (β) _ _ _ _ _ _ _ _ hs hent hp) ?_)))))))))
 rintro _ w1 ⟨rfl, x2⟩
 replace hX := hX.ex x2
 refine Rr (ZU rfl rfl) (Rr (asB rfl) (Qc (Qu ⟨_, Qr rfl rfl, ⟨cvB ?_, hX⟩⟩)))
 all_goals (exact Vr _ _)
theorem norm1_ok (β : Prop) (q x : Perm) (b : Nat) (w : World) (hq : q.ok) (hx : x.ok) (hb : At w b 0 (encP x)) : Ok Tryz.prog 175 #[.agg (encP q).toArray, .pointer (some ⟨b, 0, none⟩)] w fun v w' => v = .bool (!(q == x) && impliesS q x) ∧ Ext β w w' := by
 refine Qv 12 func175 rfl rfl rfl ?_
 have hX : Ext β w w := Bel.refl _ _
 refine Qf (Qb (QH rfl (QX (v := .agg _) rfl) ?_))
 intro b2 w1 x2 hge2 hb2
 replace hX := hX.ex x2
 replace hb := hb.ext x2
 refine Rr Qj (Qc (Qf (Qb (Rr (QF isAgg50 sizeOf50 rfl hb2.at rfl) (Rr (QF isAgg50 sizeOf50 rfl hb rfl) (Rr (JV eq_perm rfl rfl) (Rr (mvB rfl) (Qs 3 7 rfl rfl rfl (fun hg => QF isAgg50 sizeOf50 rfl hb2.at rfl) (Qs 3 7 rfl rfl rfl (fun hg => QF isAgg50 sizeOf50 rfl hb rfl) ?_)))))))))
 refine Zy 3 7 rfl rfl rfl (fun hg => ⟨(QB call176 (QK (u := undef) hg) (QK (u := undef) hg)), implies_ok (β) _ (by first | assumption | omega | (simp; done) | (simp; omega) | (simp at *; omega)) _ (by first | assumption | omega | (simp; done) | (simp; omega) | (simp at *; omega)) _⟩) ?_
 intro w3 x4
 replace hX := hX.ex x4
 refine Rr (Zt (u := undef) rfl rfl) (Rr (asB rfl) (Qc (Qu ⟨_, Qr rfl rfl, ⟨cvB ?_, hX⟩⟩)))
 all_goals (rfl)
