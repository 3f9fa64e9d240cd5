/- Several texts in one file. -/
import Derived.Test.YtncmjgmlnnenhaaDoorSlx
import Derived.Laws.Tables
/- Results of any number, also in cells; struct literals. Nothing of a program stands here. -/
namespace Go.Lx
open Go Go.RowKit
set_option linter.unusedSimpArgs false
set_option linter.unusedVariables false
set_option linter.unnecessarySimpa false
def RV (P : Program) (fr : Fr) (w : World) : ResultVar → Value → Prop
  | .tmp t, v => fr t = v
  | .cell a T, v => ∃ ad, fr a = .pointer (some ad) ∧ (loadVar T ad).run P w = .ok v w
def RVs (P : Program) (fr : Fr) (w : World) : List ResultVar → List Value → Prop
  | [], [] => True
  | r :: rs, v :: vs => RV P fr w r v ∧ RVs P fr w rs vs
  | _, _ => False
def tupV : List Value → Value
  | [v] => v
  | l => .tuple l.toArray
section
variable {P : Program} {fr : Fr} {w : World} {n : Nat} {fn : Func}
def resOf (tmps : Array Value) : ResultVar → Sem Value
  | .tmp t => pure (tmps.getD t undef)
  | .cell c t => do loadVar t (← asAddr (tmps.getD c undef))
theorem results_of (tmps : Array Value) : results fn tmps = (do let vs ← fn.results.mapM (resOf tmps); pure (if h : vs.size = 1 then vs[0] else .tuple vs)) := by
  unfold results
  congr 1
theorem run_rvs {a : Act} (ha : Is a n fr) : ∀ {rs : List ResultVar} {vs : List Value}, RVs P fr w rs vs → (rs.mapM (resOf a.tmps)).run P w = .ok vs w
  | [], [], _ => by simp
  | [], _ :: _, h => h.elim
  | _ :: _, [], h => h.elim
  | r :: rs, v :: vs, h => by
    have ih := run_rvs ha h.2
    have h1 := h.1
    rw [List.mapM_cons]
    cases r with
    | tmp t =>
      have e : a.tmps.getD t undef = v := by
        have h2 : fr t = v := h1
        rw [← h2, ← ha.fr]; rfl
      simp only [resOf, Sem.run_bind, Sem.run_pure, Result.andThen_ok, ih, e]
    | cell c t =>
      obtain ⟨ad, h2, h3⟩ := h1
      have e : a.tmps.getD c undef = .pointer (some ad) := by
        rw [← h2, ← ha.fr]; rfl
      simp only [resOf, Sem.run_bind, Sem.run_pure, Result.andThen_ok, ih, e, asAddr, h3]
theorem resL_run {rs : List ResultVar} {vs : List Value} (h : fn.results = rs.toArray) (hv : RVs P fr w rs vs) : ∀ a, Is a n fr → (results fn a.tmps).run P w = .ok (tupV vs) w := by
  intro a ha
  have e := run_rvs (P := P) (w := w) ha hv
  have e2 : (fn.results.mapM (resOf a.tmps)).run P w = .ok vs.toArray w := by
    rw [h, Array.mapM_eq_mapM_toList]
    simp [e]
  rw [results_of]
  simp only [Sem.run_bind, e2, Result.andThen_ok, Sem.run_pure]
  match vs with
  | [] => rfl
  | [v] => rfl
  | v :: v' :: r => simp [tupV]
theorem res_T {L : List Deferred} {rs : List ResultVar} {vs : List Value} (h : fn.results = rs.toArray) (hv : RVs P fr w rs vs) (hl : vs.length ≠ 1) (hd : fr.ds = L := by rfl) : Res L P fn n fr w (.tuple vs.toArray) := by
  refine ⟨hd, fun a ha => ?_⟩
  rw [resL_run h hv a ha]
  match vs with
  | [] => rfl
  | [v] => exact absurd rfl hl
  | v :: v' :: r => rfl
theorem res_1 {L : List Deferred} {r : ResultVar} {v : Value} (h : fn.results = #[r]) (hv : RV P fr w r v) (hd : fr.ds = L := by rfl) : Res L P fn n fr w v := ⟨hd, fun a ha => resL_run (rs := [r]) (vs := [v]) h ⟨hv, trivial⟩ a ha⟩
theorem rv_cellS {c : Tmp} {T : TypeId} {b off k : Nat} {cs : List Value} (ha : ∀ w, (isAgg T).run P w = .ok true w) (hs : ∀ w, (sizeOf T).run P w = .ok k w) (hx : fr c = .pointer (some ⟨b, off, none⟩)) (h : At w b off cs) (hn : cs.length = k) : RV P fr w (.cell c T) (.agg cs.toArray) :=
  ⟨_, hx, by simp [loadVar, ha, hs, run_loadAgg hn h]⟩
variable {d : Option Nat} {t : TypeId} {ps : String} {af : Array Edge} {g : Option (Nat × Bool)} {T : TypeId}
theorem o_build {parts : Array (Nat × Operand)} {vs : List (Nat × Value)} {cells : List Value} (hv : (parts.toList.map fun p => (p.1, ev fr p.2)) = vs) (h : P.built T vs = some cells.toArray) : xop P fr w ⟨d, .build T parts, t, ps, af, g⟩ = .ok (.value (.agg cells.toArray)) w := by
  have e : (parts.map fun (x : Nat × Operand) => match x with | (i, x) => (i, ev fr x)).toList = vs := by
    rw [← hv, Array.toList_map]
  have hr := run_build (P := P) w T (parts.map fun (x : Nat × Operand) => match x with | (i, x) => (i, ev fr x)) cells.toArray (by rw [e]; exact h)
  simp only [xop, execOp, Sem.run_bind, hr, Result.andThen_ok, Sem.run_pure]
variable {x y : Operand} {U : TypeId}
theorem o_convS {k k' : IntKind} {a : Int} (hP : P.underlying T = some (.int k)) (hP' : P.underlying U = some (.int k')) (hx : ev fr x = .int k a) (hw : k'.wrap a = a) : xop P fr w ⟨d, .convert T U x, t, ps, af, g⟩ = .ok (.value (.int k' a)) w := by
  rw [o_conv hP hP' hx, hw]
theorem o_lnil {e : TypeId} {a : Option Addr} {n c : Nat} (hP : P.underlying T = some (.slice e)) (hx : ev fr x = .slice a n c) : xop P fr w ⟨d, .binOp .eql T x (.const (.slice none 0 0)) U, t, ps, af, g⟩ = .ok (.value (.bool a.isNone)) w := by
  have e0 : ∀ d : Nat, (Op.equalIn (d + 1) T (.slice a n c) (.slice none 0 0)).run P w = .ok a.isNone w := fun d => by
    cases a <;> simp [Op.equalIn, run_underlying hP]
  have e1 : (Op.equal T (.slice a n c) (.slice none 0 0)).run P w = .ok a.isNone w := e0 9999
  have : (binOp .eql T (.slice a n c) (.slice none 0 0)).run P w = .ok (.bool a.isNone) w := by
    simp only [binOp]
    simp [e1]
  have e2 : ev fr (.const (.slice none 0 0)) = .slice none 0 0 := rfl
  simp only [xop, execOp, hx, e2, eqGuard]
  simp [this]
theorem o_iaA {e : TypeId} {n i s b off : Nat} {k : IntKind} (hP : P.underlying T = some (.array n e)) (hs : ∀ w, (sizeOf e).run P w = .ok s w) (hx : ev fr x = .pointer (some ⟨b, off, none⟩)) (hy : ev fr y = .int k (i : Int)) (hi : i < n) :
    xop P fr w ⟨d, .indexAddr T x y, t, ps, af, g⟩ = .ok (.value (.pointer (some ⟨b, off + i * s, none⟩))) w := by
  have e1 : (⟨b, off, none⟩ : Addr).add (i * s) = ⟨b, off + i * s, none⟩ := by
    unfold Addr.add
    by_cases h : i * s = 0
    · rw [if_pos h, h]; rfl
    · rw [if_neg h]
  have hi' : (i : Int) < n := by omega
  simp [xop, execOp, hx, hy, Instr.indexAt, Instr.sureAddr, asIntOf, run_underlying hP, hs, e1, hi]
theorem o_remU {a b : Nat} (hx : ev fr x = .int .u8 (a : Int)) (hy : ev fr y = .int .u8 (b : Int)) (hb : 0 < b) : xop P fr w ⟨d, .binOp .rem T x y U, t, ps, af, g⟩ = .ok (.value (.int .u8 ((a % b : Nat) : Int))) w := by
  have h0 : (b : Int) ≠ 0 := by omega
  have h00 : b ≠ 0 := by omega
  have e2 : (a : Int).tmod (b : Int) = ((a % b : Nat) : Int) := by rw [Int.tmod_eq_emod_of_nonneg (by omega)]; rfl
  simp [xop, execOp, hx, hy, eqGuard, binOp, Op.intDiv, h0, h00, e2]
theorem o_minN {a b : Nat} {tys : Array TypeId} (hx : ev fr x = .int .i64 (a : Int)) (hy : ev fr y = .int .i64 (b : Int)) : xop P fr w ⟨d, .call { callee := .builtin .min, args := #[x, y], argTypes := tys }, t, ps, af, g⟩ = .ok (.value (.int .i64 ((min a b : Nat) : Int))) w := by
  rw [o_min hx hy]
  have : (if (b : Int) < a then (b : Int) else a) = ((min a b : Nat) : Int) := by split <;> omega
  rw [this]
end
def encB (c : UInt8) : List Value := [.int .u8 (c.toNat : Int)]
theorem Rg_offU {rd : Option Nat} {P : Program} {n : Nat} {K : Fr → World → Prop} {fr : Fr} {w : World} {ops : Array Oper} {o : Oper} {rest : List Oper} {b : Bool} (i g : Nat) (hg : o.guard = some (i, b)) (hi : (ops[i]?).bind (·.dst) = some g) (hc : fr g = undef) (hd : dstOk n o.dst = true) (hk : Rg rd P n ops rest K (fr.put o.dst undef) w) : Rg rd P n ops (o :: rest) K fr w := by
  intro N Q hq a ha
  refine wpListIn_step fun K' hK' => ?_
  have h0 : yielded ops a.tmps i = none := by
    unfold yielded
    have h1 : a.tmps.getD g undef = undef := (congrArg (fun f : Fr => f g) ha.fr).trans hc
    rw [hi]
    rw [Array.getD_eq_getD_getElem?] at h1
    cases hx : a.tmps[g]? with
    | none => simp [hx]
    | some y =>
      rw [hx] at h1
      have h2 : y = undef := by simpa using h1
      subst h2
      simp [hx, undef]
  have hw : Region.wanted o (yielded ops a.tmps) = false := by
    simp only [Region.wanted, hg, h0]; rfl
  rw [hw]
  exact ⟨fun _ _ => trivial, hK' _ _ (hk N Q hq _ (is_put ha hd undef))⟩
end Go.Lx
