/- Walks, printed by program: each theorem says what a function of the translation returns. -/
import Derived.Test.YtndlnfdaeipifaaGreatDoorWnormal
import Derived.Test.YtndlnfdaeipifaaGreatDoorWdel
namespace Go.Proofs.YtndlnfdaeipifaaGreatDoor
open Go Go.Lx Go.RowKit
set_option maxRecDepth 100000
set_option linter.unusedVariables false
set_option linter.unusedSimpArgs false
set_option linter.unnecessarySimpa false
theorem pequalV_ok (β : Prop) (e f : TypeId) (A B : Nat → Prop) (x y : List Perm) (u v : Value) (w : World) (hx : Own encP 3 e A w u x) (hy : Own encP 3 f B w v y) : Ok Tryz.prog 84 #[u, v] w fun v' w' => v' = .bool (x == y) ∧ Ext β w w' := by
  obtain ⟨a, c, rfl, h1⟩ := hx.sl encP_ok
  obtain ⟨b, d, rfl, h2⟩ := hy.sl encP_ok
  exact pequal_ok β a b c d _ _ x y w h1 h2

theorem psame_ok (w : World) (vx : Value) (x : List Perm) (hx : Rd encP 3 (Lt w.heap.size) w vx x) (nx : x.length ≤ 1000000) (ox : ∀ p ∈ x, (Perm.ok) p) (vy : Value) (y : List Perm) (hy : Rd encP 3 (Lt w.heap.size) w vy y) (ny : y.length ≤ 1000000) (oy : ∀ p ∈ y, (Perm.ok) p) : Ok Tryz.prog 40 #[vx, vy] w fun v w' => v = .bool (normS x == normS y) ∧ Ext False w w' := by
  obtain ⟨ax, cx, rfl, hx⟩ := hx; have mx := hx.len
  obtain ⟨ay, cy, rfl, hy⟩ := hy; have my := hy.len
  refine Ok_of_W 10 Tryz.func40 rfl rfl rfl ?_
  have hX : Ext False w w := Bel.refl _ _
  refine W_seq ?_
  refine W_region ?_
  refine Rg_run rfl o_assignc ?_
  refine Rg_nil ?_
  refine W_seq ?_
  refine W_region ?_
  refine Rg_run rfl (o_moveh (v := .slice _ _ _) rfl) ?_
  refine Rg_enter rfl (o_call1 Tryz.call75 rfl) (Ok.mono (pnormal_ok _ _ _ hx.trd (by first | assumption | omega | (simp; done) | (simp; omega) | (simp at *; omega)) (by first | assumption | omega | (simp; done) | (simp; omega) | (simp at *; omega))) ?_)
  rintro v6 w1 ⟨hown6, x2⟩
  replace hX := Bel.ex hX x2
  replace hx := hx.ext x2
  replace hy := hy.ext x2
  refine Rg_run rfl (o_moveh (v := .slice _ _ _) rfl) ?_
  refine Rg_enter rfl (o_call1 Tryz.call75 rfl) (Ok.mono (pnormal_ok _ _ _ hy.trd (by first | assumption | omega | (simp; done) | (simp; omega) | (simp at *; omega)) (by first | assumption | omega | (simp; done) | (simp; omega) | (simp at *; omega))) ?_)
  rintro v8 w3 ⟨hown8, x4⟩
  replace hX := Bel.ex hX x4
  replace hx := hx.ext x4
  replace hy := hy.ext x4
  replace hown6 := hown6.ext x4
  refine Rg_enter rfl (o_call2 Tryz.call84 rfl rfl) (Ok.mono (pequalV_ok False _ _ _ _ _ _ _ _ _ hown6 hown8) ?_)
  rintro _ w5 ⟨rfl, x6⟩
  replace hX := Bel.ex hX x6
  replace hx := hx.ext x6
  replace hy := hy.ext x6
  replace hown6 := hown6.ext x6
  replace hown8 := hown8.ext x6
  refine Rg_run rfl (o_assignh (v := .bool _) rfl) ?_
  refine Rg_nil ?_
  refine W_ret ?_
  refine ⟨_, res_tmp rfl rfl, ?_⟩
  refine ⟨congrArg Value.bool ?_, hX⟩
  all_goals (rfl)

end Go.Proofs.YtndlnfdaeipifaaGreatDoor
