/- Several texts in one file. -/
import Derived.Test.YtdnkjdmfnmdpdaaGreatDoorDraw
import Derived.Laws.OwnMore
import Derived.Lib.AppendZerosOnto
import Derived.Lib.Overlaps
import Derived.Laws.Tables
set_option linter.unusedSimpArgs false
set_option linter.unusedVariables false
set_option linter.unnecessarySimpa false
/- Own slices written inside: copy to a place, append that stays in place, append of zeros, the library's overlaps. Nothing of a program stands here. -/
namespace Go.Lx
open Go Go.RowKit
section
variable {rd : Option Nat} {P : Program} {n : Nat} {K : Fr → World → Prop} {fr : Fr} {w : World} {α : Type} {enc : α → List Value} {k by_ : Nat} {D : Nat → Prop} {z : Value} {T e : TypeId} {l : List α} {a : Option Addr} {c m : Nat}
def putL (l : List α) (o : Nat) (vs : List α) : List α := l.take o ++ vs ++ l.drop (o + vs.length)
theorem putL_len {o : Nat} {vs : List α} (h : o ≤ l.length) : (putL l o vs).length = max l.length (o + vs.length) := by
 unfold putL
 simp; omega
theorem Own.write {g o m2 : Nat} {cur : Array Value} {vs : List α} (he : EncOk enc k) (ho : Own enc k e D w (.slice (some ⟨g, 0, none⟩) m c) l) (hg : w.heap[g]? = some (.cells cur e (0, 0)))
  (h1 : o ≤ l.length) (h2 : o + vs.length ≤ c) (hm2 : m2 = max l.length (o + vs.length)) :
  Own enc k e D (w.setRow g (cur.toList.take (o * k) ++ vs.flatMap enc ++ cur.toList.drop (o * k + (vs.flatMap enc).length)).toArray) (.slice (some ⟨g, 0, none⟩) m2 c) (putL l o vs) ∧ o * k + (vs.flatMap enc).length ≤ cur.size := by
 rcases ho.row.2 with ⟨h, _⟩ | ⟨g', cap, cur', h, hb, h3, h4, h5, h6, h7⟩
 ·simp at h
 ·simp only [Value.slice.injEq, Option.some.injEq, Addr.mk.injEq, and_true, true_and] at h
  obtain ⟨rfl, rfl, rfl⟩ := h
  rw [hg] at h3
  simp only [Option.some.injEq, Obj.cells.injEq, and_true, true_and] at h3
  subst h3
  have hlen := putL_len (vs := vs) h1
  have hvl : (vs.flatMap enc).length = vs.length * k := fm_len he vs
  have hle : o * k + vs.length * k ≤ c * k := by rw [← Nat.add_mul]; exact Nat.mul_le_mul_right _ h2
  have hok : o * k ≤ l.length * k := Nat.mul_le_mul_right _ h1
  have hlc : l.length * k ≤ c * k := Nat.mul_le_mul_right _ h4
  have hcl : (cur.toList.take (o * k) ++ vs.flatMap enc ++ cur.toList.drop (o * k + (vs.flatMap enc).length)).length = cur.size := by
   simp only [List.length_append, hvl, List.length_take, List.length_drop, Array.length_toList]; omega
  refine ⟨⟨⟨by rw [fm_len he], .inr ⟨g, c, _, by rw [hlen, ← hm2], hb, setRow_heap w g cur _ e _ hg, by rw [hlen]; omega, h5, by rw [List.size_toArray, hcl, h6], ?_⟩⟩, ho.loc⟩, by omega⟩
  rw [hlen, List.toList_toArray]
  have t1 : cur.toList.take (o * k) = (l.take o).flatMap enc := by rw [fm_take he, ← h7, List.take_take]; congr 1; omega
  have hA : (cur.toList.take (o * k) ++ vs.flatMap enc).length = (o + vs.length) * k := by
   rw [List.length_append, hvl, List.length_take, Array.length_toList, Nat.add_mul]; omega
  unfold putL
  rw [List.flatMap_append, List.flatMap_append, ← t1]
  rcases Nat.le_total l.length (o + vs.length) with hx | hx
  ·rw [Nat.max_eq_right hx, List.drop_of_length_le hx, List.flatMap_nil, List.append_nil, List.take_append, List.take_of_length_le (by rw [hA]; exact Nat.le_refl _), hA, Nat.sub_self, List.take_zero, List.append_nil]
  ·have hxk : (o + vs.length) * k ≤ l.length * k := Nat.mul_le_mul_right _ hx
   rw [Nat.max_eq_left hx, fm_drop he, ← h7, List.drop_take, List.take_append, hA, List.take_of_length_le (by rw [hA]; exact hxk), hvl, ← Nat.add_mul]
theorem Own.row0 {g : Nat} (ho : Own enc k e D w (.slice (some ⟨g, 0, none⟩) m c) l) : ∃ cur : Array Value, w.heap[g]? = some (.cells cur e (0, 0)) ∧ m = l.length ∧ l.length ≤ c ∧ c ≤ maxLen ∧ cur.size = c * k := by
 rcases ho.row.2 with ⟨h, _⟩ | ⟨g', cap, cur', h, hb, h3, h4, h5, h6, h7⟩
 ·simp at h
 ·simp only [Value.slice.injEq, Option.some.injEq, Addr.mk.injEq, and_true, true_and] at h
  obtain ⟨rfl, rfl, rfl⟩ := h
  exact ⟨cur', h3, rfl, h4, h5, h6⟩
theorem Own.sm {v : Value} (ho : Own enc k e D w v l) (hne : l ≠ []) : ∃ g c, v = .slice (some ⟨g, 0, none⟩) l.length c := by
 rcases ho.row.2 with ⟨_, h⟩ | ⟨g', cap, cur', h, _⟩
 ·exact absurd (List.eq_nil_of_length_eq_zero h) hne
 ·exact ⟨g', cap, h⟩
theorem Bel.setRow1 {g : Nat} {cs : Array Value} (h : D g) : Bel True D w (w.setRow g cs) := ⟨rfl, rfl, rfl, by simp, fun q _ hq => setRow_other w g q _ (fun e => hq (by subst e; exact h)), fun _ => Nat.le_refl _⟩
theorem Rg_elstF {ops : Array Oper} {rest : List Oper} {d : Option Nat} {ty : TypeId} {pos : String} {af : Array Edge} {U : TypeId} {x y : Operand} {v : Value} {i j s : Nat} (u old : α)
  (hd : dstOk n d = true) (he : EncOk enc k) (hs : ∀ w, (sizeOf U).run P w = .ok s w) (hx : ev fr x = .pointer (elp a (i * k + j))) (hy : ev fr y = v) (hv : v.cells.toList.length = s) (h1 : oneL v.cells.toList = true) (ho : Own enc k e D w (.slice a m c) l) (hi : l[i]? = some old) (hu : enc u = (enc old).take j ++ v.cells.toList ++ (enc old).drop (j + s)) (hj : j + s ≤ k)
  (hk : ∀ w', Bel True D w w' → Own enc k e D w' (.slice a m c) (l.set i u) → Rg rd P n ops rest K (fr.put d undef) w') :
  Rg rd P n ops (⟨d, .store U x y, ty, pos, af, none⟩ :: rest) K fr w := by
 have hil : i < l.length := (List.getElem?_eq_some_iff.1 hi).1
 obtain ⟨g, c2, hsm⟩ := ho.sm (by rintro rfl; simp at hil)
 simp only [Value.slice.injEq] at hsm
 obtain ⟨rfl, rfl, rfl⟩ := hsm
 obtain ⟨cur, hg, _, hlc, _, hcs⟩ := ho.row0
 have hw := ho.write (vs := [u]) (m2 := l.length) he hg (Nat.le_of_lt hil) (by simp; omega) (by simp; omega)
 have hput : putL l i [u] = l.set i u := by
  rw [List.set_eq_take_append_cons_drop, if_pos hil]
  unfold putL
  rw [List.append_assoc]; rfl
 rw [hput] at hw
 obtain ⟨ho', _⟩ := hw
 have hfl : ([u] : List α).flatMap enc = enc u := by simp
 rw [hfl] at ho'
 have hlk : i * k + k ≤ cur.size := by
  rw [hcs, ← Nat.succ_mul]; exact Nat.mul_le_mul_right _ (by omega)
 have hcell : ∀ q, q < k → cur.toList[i * k + q]? = (enc old)[q]? := by
  intro q hq
  rcases ho.row.2 with ⟨h, _⟩ | ⟨g', cap, cur', h, hb, h3, h4, h5, h6, h7⟩
  ·simp at h
  ·simp only [Value.slice.injEq, Option.some.injEq, Addr.mk.injEq, and_true, true_and] at h
   obtain ⟨rfl, rfl⟩ := h
   rw [hg] at h3
   simp only [Option.some.injEq, Obj.cells.injEq, and_true, true_and] at h3
   subst h3
   have := fm_get he hi q hq
   rw [← this, ← h7, List.getElem?_take, if_pos]
   have : i * k + k ≤ l.length * k := by rw [← Nat.succ_mul]; exact Nat.mul_le_mul_right _ hil
   omega
 have hsplit : cur.toList.take (i * k + j) ++ v.cells.toList ++ cur.toList.drop (i * k + j + s) = cur.toList.take (i * k) ++ enc u ++ cur.toList.drop (i * k + k) := by
  have hseg : ∀ p q, p + q ≤ k → (cur.toList.drop (i * k + p)).take q = ((enc old).drop p).take q := by
   intro p q hpq
   apply List.ext_getElem?
   intro r
   rw [List.getElem?_take, List.getElem?_take]
   by_cases hr : r < q
   ·rw [if_pos hr, if_pos hr, List.getElem?_drop, List.getElem?_drop, Nat.add_assoc, hcell _ (by omega)]
   ·rw [if_neg hr, if_neg hr]
  have e1 : cur.toList.take (i * k + j) = cur.toList.take (i * k) ++ (enc old).take j := by
   rw [List.take_add]
   congr 1
   have := hseg 0 j (by omega)
   simpa using this
  have e2 : cur.toList.drop (i * k + j + s) = (enc old).drop (j + s) ++ cur.toList.drop (i * k + k) := by
   have h9 := hseg (j + s) (k - (j + s)) (by omega)
   have hl9 : ((enc old).drop (j + s)).take (k - (j + s)) = (enc old).drop (j + s) := List.take_of_length_le (by rw [List.length_drop, he.len]; exact Nat.le_refl _)
   rw [hl9] at h9
   rw [← h9, Nat.add_assoc]
   have h8 := List.take_append_drop (k - (j + s)) (cur.toList.drop (i * k + (j + s)))
   rw [List.drop_drop] at h8
   rw [show i * k + (j + s) + (k - (j + s)) = i * k + k by omega] at h8
   exact h8.symm
  rw [e1, e2, hu]
  simp [List.append_assoc]
 have hst := run_storeCells_at (P := P) g (i * k + j) e v.cells.toList 0 cur w hg (by rw [hv]; omega) (oneL.mem h1)
 simp only [Nat.add_zero, hv] at hst
 rw [hsplit] at hst
 have hel : (enc u).length = k := he.len u
 rw [hel] at ho'
 have hsz : v.cells.size = s := by rw [← Array.length_toList]; exact hv
 rw [elp_some, Nat.zero_add] at hx
 refine Rg_skip hd ?_ (hk _ (Bel.setRow1 (ho.loc g rfl)) ho')
 simp [execOp, hx, hy, Instr.storeAt, Instr.sureAddr, storeVar, hs, hsz, hst]
end
section
variable {P : Program} {fr : Fr} {w : World} {d : Option Nat} {t : TypeId} {ps : String} {af : Array Edge} {g : Option (Nat × Bool)} {T e : TypeId} {x y z u : Operand} {a : Option Addr} {n c s i j m : Nat}
theorem o_addN {U V : TypeId} {p b : Nat} (hx : ev fr x = .int .i64 (p : Int)) (hy : ev fr y = .int .i64 (b : Int)) (h : p + b ≤ 9223372036854775807) :
  xop P fr w ⟨d, .binOp .add V x y U, t, ps, af, g⟩ = .ok (.value (.int .i64 ((p + b : Nat) : Int))) w := by
 rw [o_add hx hy (by unfold I64; omega)]; rfl
end
section
variable {α : Type} {l : List α} {i q : Nat} {x z : α}
end
section
end
end Go.Lx
/- Results of any number, also in cells; struct literals. Nothing of a program stands here. -/
namespace Go.Lx
open Go Go.RowKit
def RV (P : Program) (fr : Fr) (w : World) : ResultVar → Value → Prop
 | .tmp t, v => fr t = v
 | .cell a T, v => ∃ ad, fr a = .pointer (some ad) ∧ (loadVar T ad).run P w = .ok v w
def RVs (P : Program) (fr : Fr) (w : World) : List ResultVar → List Value → Prop
 | [], [] => True
 | r :: rs, v :: vs => RV P fr w r v ∧ RVs P fr w rs vs
 | _, _ => False
def tupV : List Value → Value
 | [v] => v
 | l => .tuple l.toArray
section
variable {P : Program} {fr : Fr} {w : World} {n : Nat} {fn : Func}
def resOf (tmps : Array Value) : ResultVar → Sem Value
 | .tmp t => pure (tmps.getD t undef)
 | .cell c t => do loadVar t (← asAddr (tmps.getD c undef))
theorem results_of (tmps : Array Value) : results fn tmps = (do let vs ← fn.results.mapM (resOf tmps); pure (if h : vs.size = 1 then vs[0] else .tuple vs)) := by
 unfold results
 congr 1
theorem run_rvs {a : Act} (ha : Is a n fr) : ∀ {rs : List ResultVar} {vs : List Value}, RVs P fr w rs vs → (rs.mapM (resOf a.tmps)).run P w = .ok vs w
 | [], [], _ => by simp
 | [], _ :: _, h => h.elim
 | _ :: _, [], h => h.elim
 | r :: rs, v :: vs, h => by
  have ih := run_rvs ha h.2
  have h1 := h.1
  rw [List.mapM_cons]
  cases r with
  | tmp t =>
   have e : a.tmps.getD t undef = v := by
    have h2 : fr t = v := h1
    rw [← h2, ← ha.fr]; rfl
   simp only [resOf, Sem.run_bind, Sem.run_pure, Result.andThen_ok, ih, e]
  | cell c t =>
   obtain ⟨ad, h2, h3⟩ := h1
   have e : a.tmps.getD c undef = .pointer (some ad) := by
    rw [← h2, ← ha.fr]; rfl
   simp only [resOf, Sem.run_bind, Sem.run_pure, Result.andThen_ok, ih, e, asAddr, h3]
theorem resL_run {rs : List ResultVar} {vs : List Value} (h : fn.results = rs.toArray) (hv : RVs P fr w rs vs) : ∀ a, Is a n fr → (results fn a.tmps).run P w = .ok (tupV vs) w := by
 intro a ha
 have e := run_rvs (P := P) (w := w) ha hv
 have e2 : (fn.results.mapM (resOf a.tmps)).run P w = .ok vs.toArray w := by
  rw [h, Array.mapM_eq_mapM_toList]
  simp [e]
 rw [results_of]
 simp only [Sem.run_bind, e2, Result.andThen_ok, Sem.run_pure]
 match vs with
 | [] => rfl
 | [v] => rfl
 | v :: v' :: r => simp [tupV]
theorem res_T {L : List Deferred} {rs : List ResultVar} {vs : List Value} (h : fn.results = rs.toArray) (hv : RVs P fr w rs vs) (hl : vs.length ≠ 1) (hd : fr.ds = L := by rfl) : Res L P fn n fr w (.tuple vs.toArray) := by
 refine ⟨hd, fun a ha => ?_⟩
 rw [resL_run h hv a ha]
 match vs with
 | [] => rfl
 | [v] => exact absurd rfl hl
 | v :: v' :: r => rfl
theorem res_1 {L : List Deferred} {r : ResultVar} {v : Value} (h : fn.results = #[r]) (hv : RV P fr w r v) (hd : fr.ds = L := by rfl) : Res L P fn n fr w v := ⟨hd, fun a ha => resL_run (rs := [r]) (vs := [v]) h ⟨hv, trivial⟩ a ha⟩
theorem rv_cellS {c : Tmp} {T : TypeId} {b off k : Nat} {cs : List Value} (ha : ∀ w, (isAgg T).run P w = .ok true w) (hs : ∀ w, (sizeOf T).run P w = .ok k w) (hx : fr c = .pointer (some ⟨b, off, none⟩)) (h : At w b off cs) (hn : cs.length = k) : RV P fr w (.cell c T) (.agg cs.toArray) :=
 ⟨_, hx, by simp [loadVar, ha, hs, run_loadAgg hn h]⟩
variable {d : Option Nat} {t : TypeId} {ps : String} {af : Array Edge} {g : Option (Nat × Bool)} {T : TypeId}
theorem o_build {parts : Array (Nat × Operand)} {vs : List (Nat × Value)} {cells : List Value} (hv : (parts.toList.map fun p => (p.1, ev fr p.2)) = vs) (h : P.built T vs = some cells.toArray) : xop P fr w ⟨d, .build T parts, t, ps, af, g⟩ = .ok (.value (.agg cells.toArray)) w := by
 have e : (parts.map fun (x : Nat × Operand) => match x with | (i, x) => (i, ev fr x)).toList = vs := by
  rw [← hv, Array.toList_map]
 have hr := run_build (P := P) w T (parts.map fun (x : Nat × Operand) => match x with | (i, x) => (i, ev fr x)) cells.toArray (by rw [e]; exact h)
 simp only [xop, execOp, Sem.run_bind, hr, Result.andThen_ok, Sem.run_pure]
variable {x y : Operand} {U : TypeId}
theorem o_convS {k k' : IntKind} {a : Int} (hP : P.underlying T = some (.int k)) (hP' : P.underlying U = some (.int k')) (hx : ev fr x = .int k a) (hw : k'.wrap a = a) : xop P fr w ⟨d, .convert T U x, t, ps, af, g⟩ = .ok (.value (.int k' a)) w := by
 rw [o_conv hP hP' hx, hw]
theorem o_remN {a b : Nat} (hx : ev fr x = .int .i64 (a : Int)) (hy : ev fr y = .int .i64 (b : Int)) (hb : 0 < b) (hr : a ≤ 9223372036854775807) : xop P fr w ⟨d, .binOp .rem T x y U, t, ps, af, g⟩ = .ok (.value (.int .i64 ((a % b : Nat) : Int))) w := by
 rw [o_rem hx hy (by omega) (by omega) ⟨by omega, by omega⟩]; rfl
theorem o_lnil {e : TypeId} {a : Option Addr} {n c : Nat} (hP : P.underlying T = some (.slice e)) (hx : ev fr x = .slice a n c) : xop P fr w ⟨d, .binOp .eql T x (.const (.slice none 0 0)) U, t, ps, af, g⟩ = .ok (.value (.bool a.isNone)) w := by
 have e0 : ∀ d : Nat, (Op.equalIn (d + 1) T (.slice a n c) (.slice none 0 0)).run P w = .ok a.isNone w := fun d => by
  cases a <;> simp [Op.equalIn, run_underlying hP]
 have e1 : (Op.equal T (.slice a n c) (.slice none 0 0)).run P w = .ok a.isNone w := e0 9999
 have : (binOp .eql T (.slice a n c) (.slice none 0 0)).run P w = .ok (.bool a.isNone) w := by
  simp only [binOp]
  simp [e1]
 have e2 : ev fr (.const (.slice none 0 0)) = .slice none 0 0 := rfl
 simp only [xop, execOp, hx, e2, eqGuard]
 simp [this]
theorem o_iaA {e : TypeId} {n i s b off : Nat} {k : IntKind} (hP : P.underlying T = some (.array n e)) (hs : ∀ w, (sizeOf e).run P w = .ok s w) (hx : ev fr x = .pointer (some ⟨b, off, none⟩)) (hy : ev fr y = .int k (i : Int)) (hi : i < n) :
  xop P fr w ⟨d, .indexAddr T x y, t, ps, af, g⟩ = .ok (.value (.pointer (some ⟨b, off + i * s, none⟩))) w := by
 have e1 : (⟨b, off, none⟩ : Addr).add (i * s) = ⟨b, off + i * s, none⟩ := by
  unfold Addr.add
  by_cases h : i * s = 0
  ·rw [if_pos h, h]; rfl
  ·rw [if_neg h]
 have hi' : (i : Int) < n := by omega
 simp [xop, execOp, hx, hy, Instr.indexAt, Instr.sureAddr, asIntOf, run_underlying hP, hs, e1, hi]
theorem o_remU {a b : Nat} (hx : ev fr x = .int .u8 (a : Int)) (hy : ev fr y = .int .u8 (b : Int)) (hb : 0 < b) : xop P fr w ⟨d, .binOp .rem T x y U, t, ps, af, g⟩ = .ok (.value (.int .u8 ((a % b : Nat) : Int))) w := by
 have h0 : (b : Int) ≠ 0 := by omega
 have h00 : b ≠ 0 := by omega
 have e2 : (a : Int).tmod (b : Int) = ((a % b : Nat) : Int) := by rw [Int.tmod_eq_emod_of_nonneg (by omega)]; rfl
 simp [xop, execOp, hx, hy, eqGuard, binOp, Op.intDiv, h0, h00, e2]
theorem wrapB (c : UInt8) : IntKind.i64.wrap (c.toNat : Int) = (c.toNat : Int) := wrap_in ⟨by omega, by have := c.toNat_lt; omega⟩
end
def encB (c : UInt8) : List Value := [.int .u8 (c.toNat : Int)]
theorem encB_ok : EncOk encB 1 := ⟨by decide, fun _ => rfl, fun x u hu => by simp [encB] at hu; subst hu; rfl⟩
theorem Rg_offU {rd : Option Nat} {P : Program} {n : Nat} {K : Fr → World → Prop} {fr : Fr} {w : World} {ops : Array Oper} {o : Oper} {rest : List Oper} {b : Bool} (i g : Nat) (hg : o.guard = some (i, b)) (hi : (ops[i]?).bind (·.dst) = some g) (hc : fr g = undef) (hd : dstOk n o.dst = true) (hk : Rg rd P n ops rest K (fr.put o.dst undef) w) : Rg rd P n ops (o :: rest) K fr w := by
 intro N Q hq a ha
 refine wpListIn_step fun K' hK' => ?_
 have h0 : yielded ops a.tmps i = none := by
  unfold yielded
  have h1 : a.tmps.getD g undef = undef := (congrArg (fun f : Fr => f g) ha.fr).trans hc
  rw [hi]
  rw [Array.getD_eq_getD_getElem?] at h1
  cases hx : a.tmps[g]? with
  | none => simp [hx]
  | some y =>
   rw [hx] at h1
   have h2 : y = undef := by simpa using h1
   subst h2
   simp [hx, undef]
 have hw : Region.wanted o (yielded ops a.tmps) = false := by
  simp only [Region.wanted, hg, h0]; rfl
 rw [hw]
 exact ⟨fun _ _ => trivial, hK' _ _ (hk N Q hq _ (is_put ha hd undef))⟩
end Go.Lx
