/- Walks, printed by program: each theorem says what a function of the translation returns. -/
import Derived.Test.YtgnphpimkfcmlaaDoorWnormal
import Derived.Test.YtgnphpimkfcmlaaDoorWdel
namespace Go.Proofs.YtgnphpimkfcmlaaDoor
open Go Go.Lx Go.RowKit
set_option maxRecDepth 100000
set_option linter.unusedVariables false
set_option linter.unusedSimpArgs false
set_option linter.unnecessarySimpa false
theorem pequalV_ok (β : Prop) (e f : TypeId) (A B : Nat → Prop) (x y : List Perm) (u v : Value) (w : World) (hx : Own encP 3 e A w u x) (hy : Own encP 3 f B w v y) : Ok Tryd.prog 57 #[u, v] w fun v' w' => v' = .bool (x == y) ∧ Ext β w w' := by
  obtain ⟨a, c, rfl, h1⟩ := hx.sl encP_ok
  obtain ⟨b, d, rfl, h2⟩ := hy.sl encP_ok
  exact pequal_ok β a b c d _ _ x y w h1 h2
theorem pdeleteV_ok (β : Prop) (B : Nat → Prop) (l : List Perm) (v : Value) (fid : FuncId) (cs : Array Value) (q : Perm → Bool) (w : World) (ho : Own encP 3 27 B w v l) (hent : ∀ args w, (callFunc fid args).run Tryd.prog w = .ok (.enter fid args) w) (hq : ∀ x ∈ l, ∀ w', Bel β B w w' → Ok Tryd.prog fid (#[.agg (encP x).toArray] ++ cs) w' fun v w'' => v = .bool (q x) ∧ Ext β w' w'') : Ok Tryd.prog 58 #[v, .func (.func fid) #[] cs] w fun v' w' => Own encP 3 27 B w' v' (l.filter fun x => !q x) ∧ Bel β B w w' := by
  obtain ⟨a, c, rfl, _⟩ := ho.sl encP_ok
  refine (pdelete_ok β a c B l fid cs q w ho hent hq).mono ?_
  rintro _ w' ⟨m, rfl, h1, h2⟩
  exact ⟨h1, h2⟩

theorem psame_ok (w : World) (vx : Value) (x : List Perm) (hx : Rd encP 3 (Lt w.heap.size) w vx x) (nx : x.length ≤ 1000000) (ox : ∀ p ∈ x, (Perm.ok) p) (vy : Value) (y : List Perm) (hy : Rd encP 3 (Lt w.heap.size) w vy y) (ny : y.length ≤ 1000000) (oy : ∀ p ∈ y, (Perm.ok) p) : Ok Tryd.prog 30 #[vx, vy] w fun v w' => v = .bool (normS x == normS y) ∧ Ext False w w' := by
  obtain ⟨ax, cx, rfl, hx⟩ := hx; have mx := hx.len
  obtain ⟨ay, cy, rfl, hy⟩ := hy; have my := hy.len
  refine Ok_of_W 10 Tryd.func30 rfl rfl rfl ?_
  have hX : Ext False w w := Bel.refl _ _
  refine W_seq ?_
  refine W_region ?_
  refine Rg_run rfl o_assignc ?_
  refine Rg_nil ?_
  refine W_seq ?_
  refine W_region ?_
  refine Rg_run rfl (o_moveh (v := .slice _ _ _) rfl) ?_
  refine Rg_enter rfl (o_call1 Tryd.call26 rfl) (Ok.mono (pnormal_ok _ _ _ hx.trd (by first | assumption | omega | (simp; done) | (simp; omega) | (simp at *; omega)) (by first | assumption | omega | (simp; done) | (simp; omega) | (simp at *; omega))) ?_)
  rintro v6 w1 ⟨hown6, x2⟩
  replace hX := Bel.ex hX x2
  replace hx := hx.ext x2
  replace hy := hy.ext x2
  refine Rg_run rfl (o_moveh (v := .slice _ _ _) rfl) ?_
  refine Rg_enter rfl (o_call1 Tryd.call26 rfl) (Ok.mono (pnormal_ok _ _ _ hy.trd (by first | assumption | omega | (simp; done) | (simp; omega) | (simp at *; omega)) (by first | assumption | omega | (simp; done) | (simp; omega) | (simp at *; omega))) ?_)
  rintro v8 w3 ⟨hown8, x4⟩
  replace hX := Bel.ex hX x4
  replace hx := hx.ext x4
  replace hy := hy.ext x4
  replace hown6 := hown6.ext x4
  refine Rg_enter rfl (o_call2 Tryd.call57 rfl rfl) (Ok.mono (pequalV_ok False _ _ _ _ _ _ _ _ _ hown6 hown8) ?_)
  rintro _ w5 ⟨rfl, x6⟩
  replace hX := Bel.ex hX x6
  replace hx := hx.ext x6
  replace hy := hy.ext x6
  replace hown6 := hown6.ext x6
  replace hown8 := hown8.ext x6
  refine Rg_run rfl (o_assignh (v := .bool _) rfl) ?_
  refine Rg_nil ?_
  refine W_ret ?_
  refine ⟨_, res_tmp rfl rfl, ?_⟩
  refine ⟨congrArg Value.bool ?_, hX⟩
  all_goals (rfl)

theorem minus11_ok (β : Prop) (q x : Perm) (b : Nat) (w : World) (hq : q.ok) (hx : x.ok) (hb : At w b 0 (encP x)) : Ok Tryd.prog 60 #[.agg (encP q).toArray, .pointer (some ⟨b, 0, none⟩)] w fun v w' => v = .bool (impliesS q x) ∧ Ext β w w' := by
  refine Ok_of_W 7 Tryd.func60 rfl rfl rfl ?_
  have hX : Ext β w w := Bel.refl _ _
  refine W_seq ?_
  refine W_region ?_
  refine Rg_newB rfl (o_box (v := .agg _) rfl) ?_
  intro b2 w1 x2 hge2 hb2
  replace hX := Bel.ex hX x2
  replace hb := hb.ext x2
  refine Rg_run rfl o_assignc ?_
  refine Rg_nil ?_
  refine W_seq ?_
  refine W_region ?_
  refine Rg_run rfl (o_loadS Tryd.isAgg27 Tryd.sizeOf27 rfl hb2.at rfl) ?_
  refine Rg_run rfl (o_loadS Tryd.isAgg27 Tryd.sizeOf27 rfl hb rfl) ?_
  refine Rg_enter rfl (o_call2 Tryd.call21 rfl rfl) (Ok.mono (implies_ok (β) _ (by first | assumption | omega | (simp; done) | (simp; omega) | (simp at *; omega)) _ (by first | assumption | omega | (simp; done) | (simp; omega) | (simp at *; omega)) _) ?_)
  rintro _ w3 ⟨rfl, x4⟩
  replace hX := Bel.ex hX x4
  replace hb := hb.ext x4
  replace hb2 := hb2.ext x4
  refine Rg_run rfl (o_assignh (v := .bool _) rfl) ?_
  refine Rg_nil ?_
  refine W_ret ?_
  refine ⟨_, res_tmp rfl rfl, ?_⟩
  refine ⟨congrArg Value.bool ?_, hX⟩
  all_goals (rfl)

theorem minus1_ok (β : Prop) (x : Perm) (a : Option Addr) (c : Nat) (B : Nat → Prop) (y : List Perm) (b : Nat) (w : World) (hx : x.ok) (hok2 : ∀ p ∈ y, p.ok) (hy : Sl encP 3 B w a c y) (hb : At w b 0 [.slice a y.length c]) : Ok Tryd.prog 59 #[.agg (encP x).toArray, .pointer (some ⟨b, 0, none⟩)] w fun v w' => v = .bool (y.any fun q => impliesS q x) ∧ Ext β w w' := by
  refine Ok_of_W 7 Tryd.func59 rfl rfl rfl ?_
  have hX : Ext β w w := Bel.refl _ _
  refine W_seq ?_
  refine W_region ?_
  refine Rg_newB rfl (o_box (v := .agg _) rfl) ?_
  intro b2 w1 x2 hge2 hb2
  replace hX := Bel.ex hX x2
  replace hb := hb.ext x2
  replace hy := hy.ext x2
  refine Rg_run rfl o_assignc ?_
  refine Rg_nil ?_
  refine W_seq ?_
  refine W_region ?_
  refine Rg_run rfl (o_load1 Tryd.isAgg46 rfl (hb.get 0 rfl)) ?_
  refine Rg_run rfl (o_fn1 rfl) ?_
  refine Rg_enter rfl (o_call2 Tryd.call52 rfl rfl) (Ok.mono (pcontf_ok (β) _ _ _ _ 60 #[.pointer (some ⟨b2, 0, none⟩)] (fun q => impliesS q x) _ hy Tryd.call60 (fun q hq w' hw' => minus11_ok β q x b2 w' (hok2 q hq) hx (hb2.at.ext hw'))) ?_)
  rintro _ w3 ⟨rfl, x4⟩
  replace hX := Bel.ex hX x4
  replace hb := hb.ext x4
  replace hy := hy.ext x4
  replace hb2 := hb2.ext x4
  refine Rg_run rfl (o_assignh (v := .bool _) rfl) ?_
  refine Rg_nil ?_
  refine W_ret ?_
  refine ⟨_, res_tmp rfl rfl, ?_⟩
  refine ⟨congrArg Value.bool ?_, hX⟩
  all_goals (rfl)

theorem pminus_ok (w : World) (vx : Value) (x : List Perm) (hx : Rd encP 3 (Lt w.heap.size) w vx x) (nx : x.length ≤ 1000000) (ox : ∀ p ∈ x, (Perm.ok) p) (vy : Value) (y : List Perm) (hy : Rd encP 3 (Lt w.heap.size) w vy y) (ny : y.length ≤ 1000000) (oy : ∀ p ∈ y, (Perm.ok) p) : Ok Tryd.prog 35 #[vx, vy] w fun v w' => Own encP 3 27 (Fsh w w') w' v ((normS x).filter fun p => !(y.any fun q => impliesS q p)) ∧ Ext False w w' := by
  obtain ⟨ax, cx, rfl, hx⟩ := hx; have mx := hx.len
  obtain ⟨ay, cy, rfl, hy⟩ := hy; have my := hy.len
  refine Ok_of_W 9 Tryd.func35 rfl rfl rfl ?_
  have hX : Ext False w w := Bel.refl _ _
  refine W_seq ?_
  refine W_region ?_
  refine Rg_newB rfl (o_box (v := .slice _ _ _) rfl) ?_
  intro b3 w1 x2 hge3 hb3
  have hlt3 := hb3.lt
  have z3 := Bel.size x2
  replace hX := Bel.ex hX x2
  replace hx := hx.ext x2
  replace hy := hy.ext x2
  refine Rg_run rfl o_assignc ?_
  refine Rg_nil ?_
  refine W_seq ?_
  refine W_region ?_
  refine Rg_run rfl (o_moveh (v := .slice _ _ _) rfl) ?_
  refine Rg_enter rfl (o_call1 Tryd.call26 rfl) (Ok.mono (pnormal_ok _ _ _ hx.trd (by first | assumption | omega | (simp; done) | (simp; omega) | (simp at *; omega)) (by first | assumption | omega | (simp; done) | (simp; omega) | (simp at *; omega))) ?_)
  rintro v6 w4 ⟨hown6, x5⟩
  have z6 := Bel.size x5
  replace hX := Bel.ex hX x5
  replace hx := hx.ext x5
  replace hy := hy.ext x5
  replace hb3 := hb3.ext x5
  replace hown6 := hown6.mono (D' := fun g => w.heap.size ≤ g ∧ g ≠ b3) (fun g h1 h2 => by omega)
  refine Rg_run rfl (o_fn1 rfl) ?_
  refine Rg_enter rfl (o_call2 Tryd.call58 rfl rfl) (Ok.mono (pdeleteV_ok False _ _ _ 59 #[.pointer (some ⟨b3, 0, none⟩)] (fun p => y.any fun q => impliesS q p) _ hown6 Tryd.call59 (fun p hp w' hw' => minus1_ok False p _ _ _ y b3 w' (normS_ok ox p hp) oy (hy.keep hw' (fun g h1 h2 h3 => by omega)) (hb3.at.keep hw' (fun h => by omega)))) ?_)
  rintro v8 w7 ⟨hown6, x8⟩
  have z9 := Bel.size x8
  replace hX := Bel.out hX x8 (fun g h1 h2 => by first | exact h2 | omega)
  replace hx := hx.keep x8 (fun g h1 h2 h3 => by omega)
  replace hy := hy.keep x8 (fun g h1 h2 h3 => by omega)
  refine Rg_run rfl (o_assignh (v := v8) rfl) ?_
  refine Rg_nil ?_
  refine W_ret ?_
  refine ⟨_, res_tmp rfl rfl, ?_⟩
  exact ⟨hown6.mono (fun g h1 h2 => by omega), hX⟩

end Go.Proofs.YtgnphpimkfcmlaaDoor
