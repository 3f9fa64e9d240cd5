/- Several texts in one file. -/
import Derived.Test.YtgmpgfokblehdaaGreatDoorOwn
import Derived.Lib.AppendZerosOnto
import Derived.Lib.Overlaps
import Derived.Laws.Tables
set_option linter.unusedSimpArgs false
set_option linter.unusedVariables false
set_option linter.unnecessarySimpa false
/- Own slices written inside: copy to a place, append that stays in place, append of zeros, the library's overlaps. Nothing of a program stands here. -/
namespace Go.Lx
open Go Go.RowKit
section
variable {rd : Option Nat} {P : Program} {n : Nat} {K : Fr → World → Prop} {fr : Fr} {w : World} {α : Type} {enc : α → List Value} {k by_ : Nat} {D : Nat → Prop} {z : Value} {T e : TypeId} {l : List α} {a : Option Addr} {c m : Nat}
def putL (l : List α) (o : Nat) (vs : List α) : List α := l.take o ++ vs ++ l.drop (o + vs.length)
theorem ZL {o : Nat} {vs : List α} (h : o ≤ l.length) : (putL l o vs).length = max l.length (o + vs.length) := by
 unfold putL
 simp; omega
theorem putL_nil {o : Nat} (h : o ≤ l.length) : putL l o [] = l := by simp [putL]
theorem Own.write {g o m2 : Nat} {cur : Array Value} {vs : List α} (he : EncOk enc k) (ho : Own enc k e D w (.slice (some ⟨g, 0, none⟩) m c) l) (hg : w.heap[g]? = some (.cells cur e (0, 0)))
  (h1 : o ≤ l.length) (h2 : o + vs.length ≤ c) (hm2 : m2 = max l.length (o + vs.length)) :
  Own enc k e D (w.setRow g (cur.toList.take (o * k) ++ vs.flatMap enc ++ cur.toList.drop (o * k + (vs.flatMap enc).length)).toArray) (.slice (some ⟨g, 0, none⟩) m2 c) (putL l o vs) ∧ o * k + (vs.flatMap enc).length ≤ cur.size := by
 rcases ho.row.2 with ⟨h, _⟩ | ⟨g', cap, cur', h, hb, h3, h4, h5, h6, h7⟩
 ·simp at h
 ·simp only [Value.slice.injEq, Option.some.injEq, Addr.mk.injEq, and_true, true_and] at h
  obtain ⟨rfl, rfl, rfl⟩ := h
  rw [hg] at h3
  simp only [Option.some.injEq, Obj.cells.injEq, and_true, true_and] at h3
  subst h3
  have hlen := ZL (vs := vs) h1
  have hvl : (vs.flatMap enc).length = vs.length * k := Zz he vs
  have hle : o * k + vs.length * k ≤ c * k := by rw [← Nat.add_mul]; exact Nat.mul_le_mul_right _ h2
  have hok : o * k ≤ l.length * k := Nat.mul_le_mul_right _ h1
  have hlc : l.length * k ≤ c * k := Nat.mul_le_mul_right _ h4
  have hcl : (cur.toList.take (o * k) ++ vs.flatMap enc ++ cur.toList.drop (o * k + (vs.flatMap enc).length)).length = cur.size := by
   simp only [List.length_append, hvl, List.length_take, List.length_drop, Array.length_toList]; omega
  refine ⟨⟨⟨by rw [Zz he], .inr ⟨g, c, _, by rw [hlen, ← hm2], hb, setRow_heap w g cur _ e _ hg, by rw [hlen]; omega, h5, by rw [List.size_toArray, hcl, h6], ?_⟩⟩, ho.loc⟩, by omega⟩
  rw [hlen, List.toList_toArray]
  have t1 : cur.toList.take (o * k) = (l.take o).flatMap enc := by rw [YB he, ← h7, List.take_take]; congr 1; omega
  have hA : (cur.toList.take (o * k) ++ vs.flatMap enc).length = (o + vs.length) * k := by
   rw [List.length_append, hvl, List.length_take, Array.length_toList, Nat.add_mul]; omega
  unfold putL
  rw [List.flatMap_append, List.flatMap_append, ← t1]
  rcases Nat.le_total l.length (o + vs.length) with hx | hx
  ·rw [Nat.max_eq_right hx, List.drop_of_length_le hx, List.flatMap_nil, List.append_nil, List.take_append, List.take_of_length_le (by rw [hA]; exact Nat.le_refl _), hA, Nat.sub_self, List.take_zero, List.append_nil]
  ·have hxk : (o + vs.length) * k ≤ l.length * k := Nat.mul_le_mul_right _ hx
   rw [Nat.max_eq_left hx, fm_drop he, ← h7, List.drop_take, List.take_append, hA, List.take_of_length_le (by rw [hA]; exact hxk), hvl, ← Nat.add_mul]
theorem Own.row0 {g : Nat} (ho : Own enc k e D w (.slice (some ⟨g, 0, none⟩) m c) l) : ∃ cur : Array Value, w.heap[g]? = some (.cells cur e (0, 0)) ∧ m = l.length ∧ l.length ≤ c ∧ c ≤ maxLen ∧ cur.size = c * k := by
 rcases ho.row.2 with ⟨h, _⟩ | ⟨g', cap, cur', h, hb, h3, h4, h5, h6, h7⟩
 ·simp at h
 ·simp only [Value.slice.injEq, Option.some.injEq, Addr.mk.injEq, and_true, true_and] at h
  obtain ⟨rfl, rfl, rfl⟩ := h
  exact ⟨cur', h3, rfl, h4, h5, h6⟩
theorem Own.sm {v : Value} (ho : Own enc k e D w v l) (hne : l ≠ []) : ∃ g c, v = .slice (some ⟨g, 0, none⟩) l.length c := by
 rcases ho.row.2 with ⟨_, h⟩ | ⟨g', cap, cur', h, _⟩
 ·exact absurd (List.eq_nil_of_length_eq_zero h) hne
 ·exact ⟨g', cap, h⟩
theorem Bel.setRow1 {g : Nat} {cs : Array Value} (h : D g) : Bel True D w (w.setRow g cs) := ⟨rfl, rfl, rfl, by simp, fun q _ hq => setRow_other w g q _ (fun e => hq (by subst e; exact h)), fun _ => Nat.le_refl _⟩
theorem Jn {ops : Array Oper} {rest : List Oper} {d : Option Nat} {ty : TypeId} {pos : String} {af : Array Edge} {x y : Operand} {o m2 dLen dCap sLen sCap c' : Nat} {a' : Option Addr} {F : Nat → Prop} (vs : List α) (hd : dstOk n d = true)
  (he : EncOk enc k) (ht : ElT P T e k by_ z) (hx : ev fr x = .slice (if c = o then a else elp a (o * k)) dLen dCap) (hy : ev fr y = .slice a' sLen sCap) (ho : Own enc k e D w (.slice a m c) l) (hs : Sl enc k F w a' c' vs)
  (hmin : min sLen dLen = vs.length) (h1 : o ≤ l.length) (h2 : o + vs.length ≤ c) (hm2 : m2 = max l.length (o + vs.length))
  (hk : ∀ w', Bel True D w w' → Own enc k e D w' (.slice a m2 c) (putL l o vs) → Rg rd P n ops rest K (fr.put d (.int .i64 (vs.length : Int))) w') :
  Rg rd P n ops (⟨d, .call { callee := .builtin .copy, args := #[x, y], argTypes := #[T, T] }, ty, pos, af, none⟩ :: rest) K fr w := by
 obtain ⟨i, hi, hzz, hsz, hby⟩ := ht.inf
 have hmin' : Nat.min sLen dLen = vs.length := hmin
 by_cases h0 : vs = []
 ·subst h0
  have hml : m = l.length := by
   rcases ho.row.2 with ⟨h, h3⟩ | ⟨g', cap, cur', h, _⟩
   ·simp at h; omega
   ·simp at h; exact h.2.1
  have hm3 : m2 = m := by simp at hm2; omega
  subst hm3
  refine ZX hd (v := .int .i64 0) (w' := w) ?_ (hk _ (Bel.refl _ _) (by rw [putL_nil h1]; exact ho))
  have hf : ∀ v : Option Addr, (Builtin.firstCells k 0 (.slice v sLen sCap)).run P w = .ok #[] w := fun v => by
   cases v with
   | none => exact run_firstCells_none w k 0 sLen sCap
   | some ad => exact run_firstCells_some w k 0 ad sLen sCap [] (by simp) (by simp)
  have hr : (Builtin.copy_ #[T, T] ty #[.slice (if c = o then a else elp a (o * k)) dLen dCap, .slice a' sLen sCap]).run P w = .ok (goInt 0) w := by
   have hmin0 : Nat.min sLen dLen = 0 := hmin'
   cases hb : (if c = o then a else elp a (o * k)) with
   | none => simp [Builtin.copy_, run_underlying ht.sl, Builtin.lenOf, hmin0, sizeOf, typeInfo, hi, hsz, hf]
   | some ad => simp [Builtin.copy_, run_underlying ht.sl, Builtin.lenOf, hmin0, sizeOf, typeInfo, hi, hsz, hf, storeCells]
  simp [execOp, resolve, invoke, builtin, hx, hy, hr, goInt]
 ·have hpos : 0 < vs.length := by cases vs with
   | nil => exact absurd rfl h0
   | cons _ _ => simp
  rw [if_neg (by omega)] at hx
  obtain ⟨b, off, rfl, _, hat⟩ := hs.cells he h0
  cases a with
  | none =>
   exfalso
   rcases ho.row.2 with ⟨h, _⟩ | ⟨g', cap, cur', h, _⟩
   ·simp at h; omega
   ·simp at h
  | some ad =>
   obtain ⟨g, rfl⟩ : ∃ g, ad = ⟨g, 0, none⟩ := by
    rcases ho.row.2 with ⟨h, _⟩ | ⟨g', cap, cur', h, _⟩
    ·simp at h
    ·simp at h; exact ⟨g', h.1⟩
   obtain ⟨cur, hg, hml, _, _, _⟩ := ho.row0
   obtain ⟨ho', hfit⟩ := ho.write he hg h1 h2 hm2
   have hcl : (vs.flatMap enc).length = vs.length * k := Zz he vs
   have hsrc : ∀ j v, (vs.flatMap enc)[j]? = some v → w.cell? ((⟨b, off, none⟩ : Addr).add j) = some v := by
    intro j v hj
    have := hat j v hj
    unfold Addr.add
    by_cases hz : j = 0
    ·subst hz; simpa using this
    ·rw [if_neg hz]; exact this
   have hl := run_firstCells_some (P := P) w k vs.length ⟨b, off, none⟩ sLen sCap (vs.flatMap enc) hcl hsrc
   have hst := run_storeCells_at (P := P) g (o * k) e (vs.flatMap enc) 0 cur w hg (by simpa using hfit) (fm_one he _)
   simp only [Nat.add_zero] at hst
   rw [ZY, Nat.zero_add] at hx
   have hr : (Builtin.copy_ #[T, T] ty #[.slice (some ⟨g, o * k, none⟩) dLen dCap, .slice (some ⟨b, off, none⟩) sLen sCap]).run P w = .ok (goInt vs.length) (w.setRow g (cur.toList.take (o * k) ++ vs.flatMap enc ++ cur.toList.drop (o * k + (vs.flatMap enc).length)).toArray) := by
    simp [Builtin.copy_, run_underlying ht.sl, Builtin.lenOf, hmin', sizeOf, typeInfo, hi, hsz, hl, hst]
   refine ZX hd (v := .int .i64 (vs.length : Int)) ?_ (hk _ (Bel.setRow1 (ho.loc g rfl)) ho')
   simp [execOp, resolve, invoke, builtin, hx, hy, hr, goInt]
theorem Rg_appfit {ops : Array Oper} {rest : List Oper} {d : Option Nat} {ty : TypeId} {pos : String} {af : Array Edge} {x y : Operand} {i m2 q sCap : Nat} {a' : Option Addr} {F : Nat → Prop} (vs : List α) (hd : dstOk n d = true)
  (he : EncOk enc k) (ht : ElT P T e k by_ z) (hx : ev fr x = .slice a i c) (hy : ev fr y = .slice a' q sCap) (hq : q = vs.length) (ho : Own enc k e D w (.slice a m c) l) (hs : Sl enc k F w a' sCap vs) (hne : l ≠ [])
  (h1 : i ≤ l.length) (h2 : i + vs.length ≤ c) (hm2 : m2 = max l.length (i + vs.length))
  (hk : ∀ w', Bel True D w w' → Own enc k e D w' (.slice a m2 c) (putL l i vs) → Rg rd P n ops rest K (fr.put d (.slice a (i + q) c)) w') :
  Rg rd P n ops (⟨d, .call { callee := .builtin .append, args := #[x, y], argTypes := #[T, T] }, ty, pos, af, none⟩ :: rest) K fr w := by
 subst hq
 obtain ⟨ti, hi, hzz, hsz, hby⟩ := ht.inf
 obtain ⟨g, c2, hv⟩ := ho.sm hne
 simp only [Value.slice.injEq] at hv
 obtain ⟨rfl, rfl, rfl⟩ := hv
 obtain ⟨cur, hg, _, _, _, _⟩ := ho.row0
 obtain ⟨ho', hfit⟩ := ho.write he hg h1 h2 hm2
 have hcl : (vs.flatMap enc).length = vs.length * k := Zz he vs
 cases a' with
 | none =>
  have hv0 : vs = [] := List.eq_nil_of_length_eq_zero (by have := hs.nil rfl; have := hs.le; omega)
  subst hv0
  have hm3 : m2 = l.length := by simp at hm2; omega
  subst hm3
  have hs0 := hs.nil rfl
  subst hs0
  refine ZX hd (v := .slice (some ⟨g, 0, none⟩) i c) (w' := w) ?_ ?_
  ·have hr := run_append_owned_none (P := P) w 0 T ty e ti k ht.sl hi _ _ _ (ho.cut he (j := i) h1).row
   have hy' : ev fr y = .slice none 0 0 := hy
   simp [execOp, resolve, invoke, builtin, hx, hy', hr]
  ·have := hk w (Bel.refl _ _) (by rw [putL_nil h1]; exact ho)
   simpa using this
 | some ad =>
  have hr := run_append_room (P := P) w T ty e ti ht.sl hi g i c cur hg ad vs.length sCap (vs.flatMap enc) (by rw [hsz]; exact hcl) ?_ (fm_one he _) h2 (by rw [hsz]; exact hfit)
  ·rw [hsz] at hr
   refine ZX hd ?_ (hk _ (Bel.setRow1 (ho.loc g rfl)) ho')
   simp [execOp, resolve, invoke, builtin, hx, hy, hr]
  ·intro j v hj
   have hne2 : vs ≠ [] := by rintro rfl; simp at hj
   obtain ⟨b, off, hb1, _, hat⟩ := hs.cells he hne2
   simp only [Option.some.injEq] at hb1
   subst hb1
   have := hat j v hj
   unfold Addr.add
   by_cases hz : j = 0
   ·subst hz; simpa using this
   ·rw [if_neg hz]; exact this
theorem Rg_appz {ops : Array Oper} {rest : List Oper} {d : Option Nat} {ty TI : TypeId} {pos : String} {af : Array Edge} {x y : Operand} {i q : Nat} {KI : IntKind} (x0 : α) (hd : dstOk n d = true)
  (he : EncOk enc k) (ht : ElT P T e k by_ z) (hz : z.cells.toList = enc x0) (hTI : P.underlying TI = some (.int KI)) (hx : ev fr x = .slice a i c) (hy : ev fr y = .int .i64 (q : Int)) (ho : Own enc k e D w (.slice a i c) l)
  (hq : 0 < q) (hg : c < i + q) (hb : (i + q) * by_ ≤ 140737488355328)
  (hk : ∀ g c2 w', Ext False w w' → w.heap.size ≤ g → Own enc k e (fun b => b = g) w' (.slice (some ⟨g, 0, none⟩) (i + q) c2) (l ++ List.replicate q x0) → Rg rd P n ops rest K (fr.put d (.slice (some ⟨g, 0, none⟩) (i + q) c2)) w') :
  Rg rd P n ops (⟨d, .call { callee := .builtin .append, args := #[x, y], argTypes := #[T, TI] }, ty, pos, af, none⟩ :: rest) K fr w := by
 obtain ⟨ti, hi, hzz, hsz, hby⟩ := ht.inf
 have hil : i = l.length := by
  rcases ho.row.2 with ⟨h, h3⟩ | ⟨g', cap, cur', h, _⟩
  ·simp at h; omega
  ·simp at h; exact h.2.1
 subst hil
 have hbp := ht.bp
 have hcap : l.length + q ≤ 140737488355328 := Nat.le_trans (Nat.le_mul_of_pos_right _ hbp) hb
 have hqb : q * by_ ≤ 140737488355328 := Nat.le_trans (Nat.mul_le_mul_right _ (by omega)) hb
 have hzs : z.cells.size = k := ht.zs
 have hvs : (Builtin.zeroCells z.cells q).toList = (List.replicate q x0).flatMap enc := by
  rw [← Z7 he hz]
  unfold Builtin.zeroCells madeCells
  rw [hzs]
 have hold : (Builtin.firstCells ti.size l.length (.slice a l.length c)).run P w.drew = .ok (l.flatMap enc).toArray w.drew := by
  rw [hsz]
  cases a with
  | none =>
   have hl0 : l = [] := by
    rcases ho.row.2 with ⟨h, h3⟩ | ⟨g', cap, cur', h, _⟩
    ·exact List.eq_nil_of_length_eq_zero h3
    ·simp at h
   subst hl0
   exact run_firstCells_none w.drew k 0 0 c
  | some ad =>
   refine run_firstCells_some w.drew k l.length ad l.length c (l.flatMap enc) (Zz he l) ?_
   intro j u hj
   obtain ⟨g, rfl⟩ : ∃ g, ad = ⟨g, 0, none⟩ := by
    rcases ho.row.2 with ⟨h, _⟩ | ⟨g', cap, cur', h, _⟩
    ·simp at h
    ·simp at h; exact ⟨g', h.1⟩
   have := ho.row.cells (g := g) rfl j u hj
   simpa using this
 have hr := Lib.run_append_grow_zeros (P := P) w T TI ty e ti z .i64 KI ht.sl hTI hi hzz a l.length c (l.flatMap enc) hold q hq (by rw [hsz]; exact ht.pos) hg (by omega) (by rw [hby]; omega) (by rw [hby]; exact growslice_fits hg hb)
 refine ZX hd ?_ (hk w.heap.size _ _ ?_ (Nat.le_refl _) ?_) (v := .slice (some ⟨w.heap.size, 0, none⟩) (l.length + q) (grownCap w (l.length + q) c e)) (w' := w.drew.alloc (.cells ((l.flatMap enc).toArray ++ Builtin.zeroCells z.cells q ++ Builtin.zeroCells z.cells (grownCap w (l.length + q) c e - (l.length + q))) e))
 ·simp [execOp, resolve, invoke, builtin, hx, hy, hr]
 ·exact ⟨rfl, rfl, rfl, by simp, fun b hb _ => heap_alloc_old w.drew _ hb, False.elim⟩
 ·have hge := grownCap_ge w (l.length + q) c e
  have hcm : grownCap w (l.length + q) c e ≤ maxLen := grownCap_le_maxLen w (l.length + q) c e (by unfold maxLen; omega)
  have hll : (l ++ List.replicate q x0).length = l.length + q := by simp
  refine ⟨⟨by rw [Zz he], .inr ⟨w.heap.size, grownCap w (l.length + q) c e, _, by rw [hll], Nat.zero_le _, heap_alloc_new w.drew _, by rw [hll]; exact hge, hcm, ?_, ?_⟩⟩, fun g hg2 => by simp [Value.ownBlock] at hg2; exact hg2.symm⟩
  ·simp only [Array.size_append, List.size_toArray, size_zeroCells, hzs, Zz he, ← Nat.add_mul]
   congr 1
   omega
  ·have hA : (l.flatMap enc ++ (Builtin.zeroCells z.cells q).toList).length = (l.length + q) * k := by
    rw [hvs, ← List.flatMap_append, Zz he, hll]
   rw [hll, Array.toList_append, Array.toList_append, List.take_append, List.take_of_length_le (by rw [hA]; exact Nat.le_refl _), hA, Nat.sub_self, List.take_zero, List.append_nil, hvs, List.flatMap_append]
end
section
variable {P : Program} {fr : Fr} {w : World} {d : Option Nat} {t : TypeId} {ps : String} {af : Array Edge} {g : Option (Nat × Bool)} {T e : TypeId} {x y z u : Operand} {a : Option Addr} {n c s i j m : Nat}
theorem o_cap (hP : P.underlying T = some (.slice e)) (hx : ev fr x = .slice a n c) : xop P fr w ⟨d, .call { callee := .builtin .cap, args := #[x], argTypes := #[T] }, t, ps, af, g⟩ = .ok (.value (.int .i64 (c : Int))) w := by
 simp [xop, execOp, resolve, invoke, builtin, hx, Builtin.cap_, run_underlying hP, goInt]
theorem o_sl3L (hP : P.underlying T = some (.slice e)) (hs : ∀ w, (sizeOf e).run P w = .ok s w) (hx : ev fr x = .slice a n c) (hu : ev fr u = .int .i64 (i : Int)) (hy : ev fr y = .int .i64 (j : Int)) (hz : ev fr z = .int .i64 (m : Int)) (h0 : i ≤ j) (h1 : j ≤ m) (h2 : m ≤ c) :
  ∃ v, xop P fr w ⟨d, .slice T x (some u) (some y) (some z), t, ps, af, g⟩ = .ok (.value v) w := by
 refine ⟨.slice (if m = i then a else a.map (·.add (i * s))) (j - i) (m - i), ?_⟩
 simp [xop, execOp, hx, hy, hz, hu, Instr.slice, Instr.sliceAt, Instr.sliceBounds, Instr.sliceBound, asIntOf, run_underlying hP, h0, h1, h2, hs]
theorem Rg_sl3L {rd : Option Nat} {ops : Array Oper} {rest : List Oper} {K : Fr → World → Prop} {q : Nat} (hd : dstOk q d = true) (hP : P.underlying T = some (.slice e)) (hs : ∀ w, (sizeOf e).run P w = .ok s w) (hx : ev fr x = .slice a n c) (hu : ev fr u = .int .i64 (i : Int)) (hy : ev fr y = .int .i64 (j : Int)) (hz : ev fr z = .int .i64 (m : Int)) (h0 : i ≤ j) (h1 : j ≤ m) (h2 : m ≤ c)
  (hk : ∀ v, Rg rd P q ops rest K (fr.put d v) w) : Rg rd P q ops (⟨d, .slice T x (some u) (some y) (some z), t, ps, af, none⟩ :: rest) K fr w :=
 let ⟨v, hv⟩ := o_sl3L (d := d) (t := t) (ps := ps) (af := af) (g := none) hP hs hx hu hy hz h0 h1 h2
 ZX hd hv (hk v)
theorem o_slmid {h : Nat} (hP : P.underlying T = some (.slice e)) (hs : ∀ w, (sizeOf e).run P w = .ok s w) (hx : ev fr x = .slice a n c) (hu : ev fr u = .int .i64 (j : Int)) (hy : ev fr y = .int .i64 (h : Int)) (h0 : j ≤ h) (h1 : h ≤ c) (h2 : j < c) :
  xop P fr w ⟨d, .slice T x (some u) (some y) none, t, ps, af, g⟩ = .ok (.value (.slice (elp a (j * s)) (h - j) (c - j))) w := by
 have h3 : ¬ c = j := by omega
 simp [xop, execOp, hx, hy, hu, Instr.slice, Instr.sliceAt, Instr.sliceBounds, Instr.sliceBound, asIntOf, run_underlying hP, h0, h1, hs, elp, h3]
theorem o_sfromG {gb : Nat} (hP : P.underlying T = some (.slice e)) (hs : ∀ w, (sizeOf e).run P w = .ok s w) (hx : ev fr x = .slice (some ⟨gb, 0, none⟩) n c) (hj : ev fr y = .int .i64 (j : Int)) (hl : j ≤ n) (hc : j < c) :
  xop P fr w ⟨d, .slice T x (some y) none none, t, ps, af, g⟩ = .ok (.value (.slice (some ⟨gb, j * s, none⟩) (n - j) (c - j))) w := by
 rw [JZ hP hs hx hj hl hc, ZY, Nat.zero_add]
theorem ZB {U V : TypeId} {p b : Nat} (hx : ev fr x = .int .i64 (p : Int)) (hy : ev fr y = .int .i64 (b : Int)) (h : p + b ≤ 9223372036854775807) :
  xop P fr w ⟨d, .binOp .add V x y U, t, ps, af, g⟩ = .ok (.value (.int .i64 ((p + b : Nat) : Int))) w := by
 rw [QO hx hy (by unfold I64; omega)]; rfl
end
section
variable {α : Type} {l : List α} {i q : Nat} {x z : α}
theorem ins_grow (h : i ≤ l.length) (hq : q = l.length + 1 - i) : putL (putL (l.take i ++ List.replicate q z) i [x]) (i + 1) (l.drop i) = l.take i ++ [x] ++ l.drop i := by
 have hl : (l.take i).length = i := by rw [List.length_take]; omega
 have e1 : putL (l.take i ++ List.replicate q z) i [x] = (l.take i ++ [x]) ++ (List.replicate q z).drop 1 := by
  unfold putL
  rw [List.take_left' hl, List.length_singleton, List.drop_append, List.drop_of_length_le (by omega), List.nil_append, hl, show i + 1 - i = 1 by omega]
 rw [e1]
 unfold putL
 have hl2 : (l.take i ++ [x]).length = i + 1 := by simp [hl]
 have e2 : ((l.take i ++ [x]) ++ (List.replicate q z).drop 1).drop (i + 1 + (l.drop i).length) = [] := List.drop_of_length_le (by simp; omega)
 rw [List.take_left' hl2, e2, List.append_nil]
theorem ins_place (h : i < l.length) : putL (putL l (i + 1) (l.drop i)) i [x] = l.take i ++ [x] ++ l.drop i := by
 have hl2 : (l.take (i + 1)).length = i + 1 := by rw [List.length_take]; omega
 have e1 : putL l (i + 1) (l.drop i) = l.take (i + 1) ++ l.drop i := by
  unfold putL
  have e2 : l.drop (i + 1 + (l.drop i).length) = [] := List.drop_of_length_le (by simp; omega)
  rw [e2, List.append_nil]
 rw [e1]
 unfold putL
 rw [List.length_singleton, List.drop_left' hl2, List.take_append, hl2, show i - (i + 1) = 0 by omega, List.take_zero, List.append_nil, List.take_take, Nat.min_eq_left (by omega)]
theorem del_place (h : i < l.length) : (putL l i (l.drop (i + 1))).take (l.length - 1) = l.take i ++ l.drop (i + 1) := by
 unfold putL
 exact List.take_left' (by simp; omega)
end
section
theorem YQ {α β : Type} {ea : α → List Value} {eb : β → List Value} {P : Program} {w : World} {tS tR e : TypeId} {k : Nat} {D F : Nat → Prop} {b : Option Addr} {g off m cb n c la ca : Nat} {xs : List β} {l : List α} (ht : P.underlying tS = some (.slice e)) (hz : ∀ w, (sizeOf e).run P w = .ok k w)
  (hx : Own eb k e F w (.slice b n cb) xs) (hne : xs ≠ []) (ho : Own ea k e D w (.slice (some ⟨g, 0, none⟩) m c) l) (hk : 0 < k) (hc : 0 < c) (hd : ∀ q, F q → D q → False) :
  (Extern.SlicesOverlaps.overlaps #[tS, tS] #[tR] #[.slice b n cb, .slice (some ⟨g, off, none⟩) la ca]).run P w = .ok (.bool false) w := by
 obtain ⟨gb, c2, hv⟩ := hx.sm hne
 simp only [Value.slice.injEq] at hv
 obtain ⟨rfl, rfl, rfl⟩ := hv
 obtain ⟨cur, hg, _, _, _, hcs⟩ := ho.row0
 obtain ⟨cub, hgb, _, hle, _, hcb⟩ := hx.row0
 have hpos : 0 < cb := by
  cases xs with
  | nil => exact absurd rfl hne
  | cons _ _ => simp at hle; omega
 have hfr : ∀ j, w.frozen? ⟨gb, j, none⟩ = false := fun j => frozen_of_row w gb j cub e hgb
 refine Lib.run_overlaps_apart w tS tR e ht k hz ⟨gb, 0, none⟩ ⟨g, off, none⟩ _ cb la ca (fun h => hd gb (hx.loc gb rfl) (by have h' : gb = g := h; rw [h']; exact ho.loc g rfl)) e e cub.size cur.size ?_ ?_ ?_ (hfr 0) (hfr _)
 ·simp [World.shape?, hgb]
 ·simp [World.shape?, hg]
 ·have := Nat.mul_pos hc hk; omega
end
end Go.Lx
/- Results of any number, also in cells; struct literals. Nothing of a program stands here. -/
namespace Go.Lx
open Go Go.RowKit
def RV (P : Program) (fr : Fr) (w : World) : ResultVar → Value → Prop
 | .tmp t, v => fr t = v
 | .cell a T, v => ∃ ad, fr a = .pointer (some ad) ∧ (loadVar T ad).run P w = .ok v w
def RVs (P : Program) (fr : Fr) (w : World) : List ResultVar → List Value → Prop
 | [], [] => True
 | r :: rs, v :: vs => RV P fr w r v ∧ RVs P fr w rs vs
 | _, _ => False
def tupV : List Value → Value
 | [v] => v
 | l => .tuple l.toArray
section
variable {P : Program} {fr : Fr} {w : World} {n : Nat} {fn : Func}
def resOf (tmps : Array Value) : ResultVar → Sem Value
 | .tmp t => pure (tmps.getD t undef)
 | .cell c t => do loadVar t (← asAddr (tmps.getD c undef))
theorem results_of (tmps : Array Value) : results fn tmps = (do let vs ← fn.results.mapM (resOf tmps); pure (if h : vs.size = 1 then vs[0] else .tuple vs)) := by
 unfold results
 congr 1
theorem run_rvs {a : Act} (ha : Is a n fr) : ∀ {rs : List ResultVar} {vs : List Value}, RVs P fr w rs vs → (rs.mapM (resOf a.tmps)).run P w = .ok vs w
 | [], [], _ => by simp
 | [], _ :: _, h => h.elim
 | _ :: _, [], h => h.elim
 | r :: rs, v :: vs, h => by
  have ih := run_rvs ha h.2
  have h1 := h.1
  rw [List.mapM_cons]
  cases r with
  | tmp t =>
   have e : a.tmps.getD t undef = v := by
    have h2 : fr t = v := h1
    rw [← h2, ← ha.fr]; rfl
   simp only [resOf, Sem.run_bind, Sem.run_pure, Result.andThen_ok, ih, e]
  | cell c t =>
   obtain ⟨ad, h2, h3⟩ := h1
   have e : a.tmps.getD c undef = .pointer (some ad) := by
    rw [← h2, ← ha.fr]; rfl
   simp only [resOf, Sem.run_bind, Sem.run_pure, Result.andThen_ok, ih, e, asAddr, h3]
theorem resL_run {rs : List ResultVar} {vs : List Value} (h : fn.results = rs.toArray) (hv : RVs P fr w rs vs) : ∀ a, Is a n fr → (results fn a.tmps).run P w = .ok (tupV vs) w := by
 intro a ha
 have e := run_rvs (P := P) (w := w) ha hv
 have e2 : (fn.results.mapM (resOf a.tmps)).run P w = .ok vs.toArray w := by
  rw [h, Array.mapM_eq_mapM_toList]
  simp [e]
 rw [results_of]
 simp only [Sem.run_bind, e2, Result.andThen_ok, Sem.run_pure]
 match vs with
 | [] => rfl
 | [v] => rfl
 | v :: v' :: r => simp [tupV]
theorem res_T {L : List Deferred} {rs : List ResultVar} {vs : List Value} (h : fn.results = rs.toArray) (hv : RVs P fr w rs vs) (hl : vs.length ≠ 1) (hd : fr.ds = L := by rfl) : Res L P fn n fr w (.tuple vs.toArray) := by
 refine ⟨hd, fun a ha => ?_⟩
 rw [resL_run h hv a ha]
 match vs with
 | [] => rfl
 | [v] => exact absurd rfl hl
 | v :: v' :: r => rfl
theorem ZN {L : List Deferred} {r : ResultVar} {v : Value} (h : fn.results = #[r]) (hv : RV P fr w r v) (hd : fr.ds = L := by rfl) : Res L P fn n fr w v := ⟨hd, fun a ha => resL_run (rs := [r]) (vs := [v]) h ⟨hv, trivial⟩ a ha⟩
theorem Zb {c : Tmp} {T : TypeId} {b off k : Nat} {cs : List Value} (ha : ∀ w, (isAgg T).run P w = .ok true w) (hs : ∀ w, (sizeOf T).run P w = .ok k w) (hx : fr c = .pointer (some ⟨b, off, none⟩)) (h : At w b off cs) (hn : cs.length = k) : RV P fr w (.cell c T) (.agg cs.toArray) :=
 ⟨_, hx, by simp [loadVar, ha, hs, run_loadAgg hn h]⟩
variable {d : Option Nat} {t : TypeId} {ps : String} {af : Array Edge} {g : Option (Nat × Bool)} {T : TypeId}
theorem Q2 {parts : Array (Nat × Operand)} {vs : List (Nat × Value)} {cells : List Value} (hv : (parts.toList.map fun p => (p.1, ev fr p.2)) = vs) (h : P.built T vs = some cells.toArray) : xop P fr w ⟨d, .build T parts, t, ps, af, g⟩ = .ok (.value (.agg cells.toArray)) w := by
 have e : (parts.map fun (x : Nat × Operand) => match x with | (i, x) => (i, ev fr x)).toList = vs := by
  rw [← hv, Array.toList_map]
 have hr := run_build (P := P) w T (parts.map fun (x : Nat × Operand) => match x with | (i, x) => (i, ev fr x)) cells.toArray (by rw [e]; exact h)
 simp only [xop, execOp, Sem.run_bind, hr, Result.andThen_ok, Sem.run_pure]
variable {x y : Operand} {U : TypeId}
theorem o_convS {k k' : IntKind} {a : Int} (hP : P.underlying T = some (.int k)) (hP' : P.underlying U = some (.int k')) (hx : ev fr x = .int k a) (hw : k'.wrap a = a) : xop P fr w ⟨d, .convert T U x, t, ps, af, g⟩ = .ok (.value (.int k' a)) w := by
 rw [o_conv hP hP' hx, hw]
theorem o_remN {a b : Nat} (hx : ev fr x = .int .i64 (a : Int)) (hy : ev fr y = .int .i64 (b : Int)) (hb : 0 < b) (hr : a ≤ 9223372036854775807) : xop P fr w ⟨d, .binOp .rem T x y U, t, ps, af, g⟩ = .ok (.value (.int .i64 ((a % b : Nat) : Int))) w := by
 rw [o_rem hx hy (by omega) (by omega) ⟨by omega, by omega⟩]; rfl
theorem o_lnil {e : TypeId} {a : Option Addr} {n c : Nat} (hP : P.underlying T = some (.slice e)) (hx : ev fr x = .slice a n c) : xop P fr w ⟨d, .binOp .eql T x (.const (.slice none 0 0)) U, t, ps, af, g⟩ = .ok (.value (.bool a.isNone)) w := by
 have e0 : ∀ d : Nat, (Op.equalIn (d + 1) T (.slice a n c) (.slice none 0 0)).run P w = .ok a.isNone w := fun d => by
  cases a <;> simp [Op.equalIn, run_underlying hP]
 have e1 : (Op.equal T (.slice a n c) (.slice none 0 0)).run P w = .ok a.isNone w := e0 9999
 have : (binOp .eql T (.slice a n c) (.slice none 0 0)).run P w = .ok (.bool a.isNone) w := by
  simp only [binOp]
  simp [e1]
 have e2 : ev fr (.const (.slice none 0 0)) = .slice none 0 0 := rfl
 simp only [xop, execOp, hx, e2, eqGuard]
 simp [this]
theorem ZO {e : TypeId} {n i s b off : Nat} {k : IntKind} (hP : P.underlying T = some (.array n e)) (hs : ∀ w, (sizeOf e).run P w = .ok s w) (hx : ev fr x = .pointer (some ⟨b, off, none⟩)) (hy : ev fr y = .int k (i : Int)) (hi : i < n) :
  xop P fr w ⟨d, .indexAddr T x y, t, ps, af, g⟩ = .ok (.value (.pointer (some ⟨b, off + i * s, none⟩))) w := by
 have e1 : (⟨b, off, none⟩ : Addr).add (i * s) = ⟨b, off + i * s, none⟩ := by
  unfold Addr.add
  by_cases h : i * s = 0
  ·rw [if_pos h, h]; rfl
  ·rw [if_neg h]
 have hi' : (i : Int) < n := by omega
 simp [xop, execOp, hx, hy, Instr.indexAt, Instr.sureAddr, asIntOf, run_underlying hP, hs, e1, hi]
theorem o_remU {a b : Nat} (hx : ev fr x = .int .u8 (a : Int)) (hy : ev fr y = .int .u8 (b : Int)) (hb : 0 < b) : xop P fr w ⟨d, .binOp .rem T x y U, t, ps, af, g⟩ = .ok (.value (.int .u8 ((a % b : Nat) : Int))) w := by
 have h0 : (b : Int) ≠ 0 := by omega
 have h00 : b ≠ 0 := by omega
 have e2 : (a : Int).tmod (b : Int) = ((a % b : Nat) : Int) := by rw [Int.tmod_eq_emod_of_nonneg (by omega)]; rfl
 simp [xop, execOp, hx, hy, eqGuard, binOp, Op.intDiv, h0, h00, e2]
theorem o_subU8 {a b : Nat} (hx : ev fr x = .int .u8 (a : Int)) (hy : ev fr y = .int .u8 (b : Int)) (h : b ≤ a ∧ a < 256) : xop P fr w ⟨d, .binOp .sub T x y U, t, ps, af, g⟩ = .ok (.value (.int .u8 ((a - b : Nat) : Int))) w := by
 have e : IntKind.u8.wrap ((a : Int) - (b : Int)) = ((a - b : Nat) : Int) := by
  rw [← Int.ofNat_sub h.1]
  simp [IntKind.wrap, IntKind.bits, IntKind.signed]
  omega
 simp [xop, execOp, hx, hy, eqGuard, binOp, Op.intArith, e]
theorem o_minN {a b : Nat} {tys : Array TypeId} (hx : ev fr x = .int .i64 (a : Int)) (hy : ev fr y = .int .i64 (b : Int)) : xop P fr w ⟨d, .call { callee := .builtin .min, args := #[x, y], argTypes := tys }, t, ps, af, g⟩ = .ok (.value (.int .i64 ((min a b : Nat) : Int))) w := by
 rw [o_min hx hy]
 have : (if (b : Int) < a then (b : Int) else a) = ((min a b : Nat) : Int) := by split <;> omega
 rw [this]
theorem wrapB (c : UInt8) : IntKind.i64.wrap (c.toNat : Int) = (c.toNat : Int) := JM ⟨by omega, by have := c.toNat_lt; omega⟩
end
def encB (c : UInt8) : List Value := [.int .u8 (c.toNat : Int)]
end Go.Lx
/- A region that draws its order, with slices of its own that are appended to: each block bears a colour; a step writes blocks of its own colour alone. Nothing of a program stands here. -/
namespace Go.Lx
open Go Go.RowKit
abbrev PostC := Value → World → (Nat → Nat) → Prop
def trivC : PostC := fun _ _ _ => True
def peqC (V : Value) : PostC := fun v _ _ => v = V
def colAt (cols : List Nat) (j : Nat) : Nat := (cols[j]?).getD 0
def FreshG (c0 : Nat → Nat) (w : World) (c : Nat → Nat) : Prop := ∀ b, b < w.heap.size → c b = c0 b
abbrev RelG (β : Prop) (c0 : Nat → Nat) (w w' : World) : Prop := Bel β (fun b => c0 b ≠ 0) w w'
theorem RelG.ext0 {β : Prop} {w w' : World} (h : RelG β (fun _ => 0) w w') : Ext β w w' := Bel.mono h fun _ _ hd => hd rfl
structure StepC (β : Prop) (k : Nat) (w : World) (c : Nat → Nat) (w' : World) (c' : Nat → Nat) : Prop where
 bel : Bel β (fun b => k ≠ 0 ∧ c b = k) w w'
 col : ∀ b, b < w.heap.size → c' b = c b
section
variable {β : Prop} {k : Nat} {w0 w w' : World} {c c' c0 : Nat → Nat}
theorem StepC.rfl' (k : Nat) (w : World) (c : Nat → Nat) : StepC β k w c w c := ⟨Bel.refl _ _, fun _ _ => rfl⟩
theorem StepC.weak (h : StepC β k w c w' c') : StepC False k w c w' c' := ⟨h.bel.weak, h.col⟩
theorem StepC.over (h : StepC β k w c w' c') (x : RelG β c0 w0 w) (h0 : FreshG c0 w0 c) : RelG β c0 w0 w' := Bel.out x h.bel fun g hg hd => by rw [← h0 g hg, hd.2]; exact hd.1
theorem StepC.fresh (h : StepC β k w c w' c') (x : RelG β c0 w0 w) (h0 : FreshG c0 w0 c) : FreshG c0 w0 c' := fun b hb => (h.col b (Nat.lt_of_lt_of_le hb x.size)).trans (h0 b hb)
theorem StepC.ext (x : Ext β w w') (hc : ∀ b, b < w.heap.size → c' b = c b) : StepC β k w c w' c' := ⟨x.mono fun _ _ h => h.elim, hc⟩
end
def StableC (k : Nat) (p : PostC) : Prop := ∀ v w c w' c' q, (q = 0 ∨ q ≠ k) → StepC False q w c w' c' → p v w c → p v w' c'
def StabC (cols : List Nat) : List PostC → Nat → Prop
 | [], _ => True
 | p :: r, i => StableC (colAt cols i) p ∧ StabC cols r (i + 1)
theorem trivC_stable (k : Nat) : StableC k trivC := fun _ _ _ _ _ _ _ _ _ => trivial
theorem Qk (k : Nat) (V : Value) : StableC k (peqC V) := fun _ _ _ _ _ _ _ _ h => h
theorem StabC.get {cols : List Nat} : ∀ {l : List PostC} {i : Nat}, StabC cols l i → ∀ (j : Nat), StableC (colAt cols (i + j)) ((l[j]?).getD trivC)
 | [], i, _, j => by simpa using trivC_stable _
 | q :: r, i, h, 0 => by simpa using h.1
 | q :: r, i, h, j + 1 => by
  have := StabC.get h.2 j
  rw [show i + 1 + j = i + (j + 1) from by omega] at this
  simpa using this
def dso (l : List Oper) (i : Nat) : Option Nat := (l[i]?).bind (·.dst)
def dsIs (l : List Oper) (i d : Nat) : Bool := match dso l i with | some e => Nat.beq e d | none => false
theorem dsIs_iff {l : List Oper} {i d : Nat} : dsIs l i d = true ↔ dso l i = some d := by
 unfold dsIs
 cases dso l i with
 | none => simp
 | some e => simp
def lkO (o : Oper) : Option Nat := match o.dst with
 | some _ => none
 | none => match o.op with
  | .store _ (.tmp s) _ => some s
  | _ => none
def lkV (o : Oper) (fr : Fr) : Value := match lkO o with | some s => fr s | none => undef
def lkAt (l : List Oper) (i : Nat) : Option Nat := (l[i]?).bind lkO
def vAt (l : List Oper) (fr : Fr) (j : Nat) : Value := match dso l j with | some d => fr d | none => match lkAt l j with | some s => fr s | none => undef
theorem lkV_dst {o : Oper} {fr : Fr} {d : Nat} (h : o.dst = some d) : lkV o fr = undef := by simp [lkV, lkO, h]
theorem lkO_look {l : List Oper} {o : Oper} {s : Nat} (h : lkO o = some s) : s ∈ looks l o := by
 unfold lkO at h
 cases hd : o.dst with
 | some d => rw [hd] at h; cases h
 | none =>
  rw [hd] at h
  simp only at h
  simp only [looks, Oper.looksAt, List.mem_append, List.mem_filterMap]
  left
  cases ho : o.op with
  | store T x y =>
   rw [ho] at h
   cases x with
   | tmp q =>
    simp only [Option.some.injEq] at h
    subst h
    exact ⟨.tmp q, by simp [Op.operands], rfl⟩
   | _ => cases h
  | _ => rw [ho] at h; cases h
def prsAt (l : List Oper) (j : Nat) : List Nat := match l[j]? with | some o => prs o | none => []
def upsC (l : List Oper) : Nat → Nat → Nat → Bool
 | 0, j, i => (prsAt l j).contains i
 | n + 1, j, i => (prsAt l j).contains i || (prsAt l j).any fun r => upsC l n r i
def drawOkC (n : Nat) (l : List Oper) (m0 : Nat) : Bool :=
 (List.range m0).all (fun i => match l[i]? with
  | none => false
  | some o => (match o.dst with
    | none => true
    | some d => Nat.blt d n && (List.range i).all fun j => !(dsIs l j d)) &&
   (prs o).all (fun j => Nat.blt j i) && !hasSel o.op && (match lkO o with
    | none => true
    | some s => (List.range m0).all fun j => !(dsIs l j s) || (prs o).contains j) &&
   (looks l o).all fun s => (List.range m0).all fun j => !(dsIs l j s) || (prs o).contains j || (prsAt l j).contains i) &&
 (List.range l.length).all (fun i => Nat.blt i m0 || (match l[i]? with
  | none => false
  | some o => ((List.range i).all fun j => (prs o).contains j) || (Nat.blt m0 i && (prs o).contains (i - 1)) || (Nat.beq i m0 && (List.range m0).all fun j => upsC l 4 m0 j))) && (List.range l.length).all (fun i => match l[i]? with | none => true | some o => (prs o).all fun j => Nat.blt j i) && Nat.ble m0 l.length
def OpC (β : Prop) (k : Nat) (P : Program) (ops : Array Oper) (o : Oper) (fr : Fr) (w : World) (c : Nat → Nat) (S : PostC) : Prop :=
 (Region.wanted o (yF ops fr) = true ∧ ((∃ v w' c', ((execOp (ev fr) o).run P w = .ok (.value v) w' ∧ o.dst.isSome = true ∨ (execOp (ev fr) o).run P w = .ok .skip w' ∧ v = lkV o fr) ∧ StepC β k w c w' c' ∧ S v w' c') ∨ (∃ f args w0, (execOp (ev fr) o).run P w = .ok (.enter f args) w0 ∧ o.dst.isSome = true ∧ Ok P f args w0 fun v w' => ∃ c', StepC β k w c w' c' ∧ S v w' c'))) ∨
 (Region.wanted o (yF ops fr) = false ∧ S (lkV o fr) w c)
def bindC : List (Option Nat × Option Nat × PostC) → Fr → World → (Nat → Nat) → (Fr → Prop) → Prop
 | [], fr, _, _, K => K fr
 | (some d, _, p) :: r, fr, w, c, K => ∀ v, p v w c → bindC r (fr.set d v) w c K
 | (none, some s, p) :: r, fr, w, c, K => p (fr s) w c → bindC r fr w c K
 | (none, none, p) :: r, fr, w, c, K => (∃ u, p u w c) → bindC r fr w c K
def useC (l : List Oper) (cols : List Nat) (i j : Nat) : Bool := Nat.beq (colAt cols j) 0 || (List.range l.length).all fun j' => !(Nat.blt j j' && Nat.beq (colAt cols j') (colAt cols j)) || Nat.beq j' i || upsC l 4 j' i
def lastC (cols : List Nat) (m0 j : Nat) : Bool := Nat.beq (colAt cols j) 0 || (List.range m0).all fun j' => !(Nat.blt j j' && Nat.beq (colAt cols j') (colAt cols j))
def chainC (l : List Oper) (cols : List Nat) (m0 : Nat) : Bool := (List.range m0).all fun i => (List.range m0).all fun j => !(Nat.blt i j && Nat.beq (colAt cols i) (colAt cols j)) || Nat.beq (colAt cols j) 0 || (List.range j).any fun q => Nat.ble i q && Nat.beq (colAt cols q) (colAt cols j) && (prsAt l j).contains q
def predC (l : List Oper) (posts : List PostC) (cols : List Nat) (i : Nat) (o : Oper) : List (Option Nat × Option Nat × PostC) := (prs o).map fun j => (dso l j, none, if useC l cols i j then (posts[j]?).getD trivC else trivC)
def finC (l : List Oper) (posts : List PostC) (cols : List Nat) (m0 : Nat) : List (Option Nat × Option Nat × PostC) := (List.range m0).map fun j => (dso l j, lkAt l j, if lastC cols m0 j then (posts[j]?).getD trivC else trivC)
def beforeC (l : List Oper) (cols : List Nat) (m0 i k : Nat) : Bool := (List.range m0).all fun j => !(Nat.beq (colAt cols j) k) || Nat.beq j i || upsC l 4 j i
def KeepC (l : List Oper) (cols : List Nat) (m0 i : Nat) (c0 : Nat → Nat) (w w' : World) : Prop := ∀ k, k ≠ 0 → beforeC l cols m0 i k = true → ∀ b, b < w.heap.size → c0 b = k → w'.heap[b]? = w.heap[b]?
def OblC (β : Prop) (c0 : Nat → Nat) (P : Program) (l : List Oper) (posts : List PostC) (cols : List Nat) (fr : Fr) (w : World) : List Oper → Nat → Prop
 | [], _ => True
 | o :: r, i => (∀ w' c, RelG β c0 w w' → FreshG c0 w c → KeepC l cols posts.length i c0 w w' → bindC (predC l posts cols i o) fr w' c fun fr' => OpC β (colAt cols i) P l.toArray o fr' w' c ((posts[i]?).getD trivC)) ∧ OblC β c0 P l posts cols fr w r (i + 1)
def FwOk : List (Option Nat × Option Nat × PostC) → Fr → Fr → Prop
 | [], _, _ => True
 | (some d, _, _) :: r, fr, g => FwOk r (fr.set d (g d)) g
 | (none, some s, _) :: r, fr, g => fr s = g s ∧ FwOk r fr g
 | (none, none, _) :: r, fr, g => FwOk r fr g
theorem FwOk.no : ∀ (L : List (Option Nat × Option Nat × PostC)) (fr g : Fr), (∀ e ∈ L, e.2.1 = none) → FwOk L fr g
 | [], _, _, _ => trivial
 | (some d, q, p) :: r, fr, g, h => FwOk.no r _ g fun e he => h e (by simp [he])
 | (none, some s, p) :: r, fr, g, h => absurd (h (none, some s, p) (by simp)) (by simp)
 | (none, none, p) :: r, fr, g, h => FwOk.no r _ g fun e he => h e (by simp [he])
theorem FwOk.of : ∀ (L : List (Option Nat × Option Nat × PostC)) (fr g : Fr), (∀ (i : Nat) (e : Option Nat × Option Nat × PostC) (s : Nat), L[i]? = some e → e.1 = none → e.2.1 = some s → (∃ (j : Nat) (e' : Option Nat × Option Nat × PostC), j < i ∧ L[j]? = some e' ∧ e'.1 = some s) ∨ fr s = g s) → FwOk L fr g
 | [], _, _, _ => trivial
 | (some d, q, p) :: r, fr, g, h => FwOk.of r _ g fun i e s h1 h2 h3 => by
  rcases h (i + 1) e s (by simpa using h1) h2 h3 with ⟨j, e', hj, h4, h5⟩ | h4
  ·cases j with
   | zero =>
    simp at h4; subst h4
    simp only [Option.some.injEq] at h5
    subst h5
    exact .inr Yj
   | succ j => exact .inl ⟨j, e', by omega, by simpa using h4, h5⟩
  ·right
   by_cases hd : s = d
   ·subst hd; exact Yj
   ·rw [JF hd]; exact h4
 | (none, some q, p) :: r, fr, g, h => by
  have hq : ∀ (i : Nat) (e : Option Nat × Option Nat × PostC) (s : Nat), r[i]? = some e → e.1 = none → e.2.1 = some s → (∃ (j : Nat) (e' : Option Nat × Option Nat × PostC), j < i ∧ r[j]? = some e' ∧ e'.1 = some s) ∨ fr s = g s := fun i e s h1 h2 h3 => by
   rcases h (i + 1) e s (by simpa using h1) h2 h3 with ⟨j, e', hj, h4, h5⟩ | h4
   ·cases j with
    | zero => simp at h4; subst h4; cases h5
    | succ j => exact .inl ⟨j, e', by omega, by simpa using h4, h5⟩
   ·exact .inr h4
  refine ⟨?_, FwOk.of r fr g hq⟩
  rcases h 0 _ q rfl rfl rfl with ⟨j, e', hj, _⟩ | h4
  ·omega
  ·exact h4
 | (none, none, p) :: r, fr, g, h => FwOk.of r fr g fun i e s h1 h2 h3 => by
  rcases h (i + 1) e s (by simpa using h1) h2 h3 with ⟨j, e', hj, h4, h5⟩ | h4
  ·cases j with
   | zero => simp at h4; subst h4; cases h5
   | succ j => exact .inl ⟨j, e', by omega, by simpa using h4, h5⟩
  ·exact .inr h4
theorem JA : ∀ (L : List (Option Nat × Option Nat × PostC)) (fr g : Fr) (w : World) (c : Nat → Nat) (K : Fr → Prop), bindC L fr w c K → FwOk L fr g → (∀ p ∈ L, ∃ u, p.2.2 u w c ∧ (∀ d, p.1 = some d → u = g d) ∧ (∀ s, p.1 = none → p.2.1 = some s → u = g s)) → ∃ fr', K fr' ∧ fr'.ds = fr.ds ∧ (∀ s, (∃ p ∈ L, p.1 = some s) → fr' s = g s) ∧ (∀ s, (∀ p ∈ L, p.1 ≠ some s) → fr' s = fr s)
 | [], fr, g, w, c, K, h, _, _ => ⟨fr, h, rfl, fun s hs => by simp at hs, fun _ _ => rfl⟩
 | (none, some q, p) :: r, fr, g, w, c, K, h, hk, hp => by
  obtain ⟨u, hu, _, hu2⟩ := hp (none, some q, p) (by simp)
  have hu3 := hu2 q rfl rfl
  subst hu3
  obtain ⟨fr', h1, hds, h2, h3⟩ := JA r fr g w c K (h (by rw [hk.1]; exact hu)) hk.2 (fun q hq => hp q (by simp [hq]))
  refine ⟨fr', h1, hds, ?_, ?_⟩
  ·rintro s ⟨q, hq, e⟩
   rcases List.mem_cons.1 hq with rfl | hq
   ·cases e
   ·exact h2 s ⟨q, hq, e⟩
  ·intro s hs
   exact h3 s fun q hq => hs q (by simp [hq])
 | (none, none, p) :: r, fr, g, w, c, K, h, hk, hp => by
  obtain ⟨u, hu, _⟩ := hp (none, none, p) (by simp)
  obtain ⟨fr', h1, hds, h2, h3⟩ := JA r fr g w c K (h ⟨u, hu⟩) hk (fun q hq => hp q (by simp [hq]))
  refine ⟨fr', h1, hds, ?_, ?_⟩
  ·rintro s ⟨q, hq, e⟩
   rcases List.mem_cons.1 hq with rfl | hq
   ·cases e
   ·exact h2 s ⟨q, hq, e⟩
  ·intro s hs
   exact h3 s fun q hq => hs q (by simp [hq])
 | (some d, o, p) :: r, fr, g, w, c, K, h, hk, hp => by
  obtain ⟨u, hu, hu1, _⟩ := hp (some d, o, p) (by simp)
  have hu3 := hu1 d rfl
  subst hu3
  obtain ⟨fr', h1, hds, h2, h3⟩ := JA r (fr.set d (g d)) g w c K (h (g d) hu) hk (fun q hq => hp q (by simp [hq]))
  refine ⟨fr', h1, hds, ?_, ?_⟩
  ·rintro s ⟨q, hq, e⟩
   by_cases hr : ∃ q' ∈ r, q'.1 = some s
   ·exact h2 _ hr
   ·rcases List.mem_cons.1 hq with rfl | hq
    ·simp only [Option.some.injEq] at e
     subst e
     rw [h3 _ (fun q' hq' e' => hr ⟨q', hq', e'⟩)]
     exact Yj
    ·exact absurd ⟨q, hq, e⟩ hr
  ·intro s hs
   rw [h3 s (fun q hq => hs q (by simp [hq])), JF (fun e => hs (some d, o, p) (by simp) (by rw [e]))]
section
variable {rd : Option Nat} {β : Prop} {P : Program} {n : Nat} {K : Fr → World → Prop} {E : Nat → Fr → World → Prop} {R : Fr → World → Prop} {fr : Fr} {w : World} {l : List Oper} {m0 : Nat}
theorem OblC.get {c0 : Nat → Nat} {posts : List PostC} {cols : List Nat} : ∀ (q : List Oper) (i : Nat), OblC β c0 P l posts cols fr w q i → ∀ (j : Nat) (o : Oper), q[j]? = some o →
  ∀ w' c, RelG β c0 w w' → FreshG c0 w c → KeepC l cols posts.length (i + j) c0 w w' → bindC (predC l posts cols (i + j) o) fr w' c fun fr' => OpC β (colAt cols (i + j)) P l.toArray o fr' w' c ((posts[i + j]?).getD trivC)
 | [], _, _, j, o, h => by simp at h
 | a :: r, i, h, 0, o, e => by simp at e; subst e; exact h.1
 | a :: r, i, h, j + 1, o, e => by
  have := OblC.get r (i + 1) h.2 j o (by simpa using e)
  rwa [show i + 1 + j = i + (j + 1) from by omega] at this
theorem Zl {id : Nat} (c0 : Nat → Nat) (posts : List PostC) (cols : List Nat) (m0 : Nat) (hm : P.follows .mixedOrders = true) (hst : drawOkC n l m0 = true) (hch : chainC l cols m0 = true) (hpl : posts.length = m0) (stab : StabC cols posts 0)
  (ob : OblC β c0 P l posts cols fr w (l.take m0) 0)
  (fin : ∀ w' c, RelG β c0 w w' → FreshG c0 w c → bindC (finC l posts cols m0) fr w' c fun fr' => Rg rd P n l.toArray (l.drop m0) K fr' w') : W rd P n (.region id l.toArray true) K E R fr w := by
 intro N a ha
 simp only [drawOkC, Bool.and_eq_true, List.all_eq_true, List.mem_range, Nat.ble_eq] at hst
 obtain ⟨⟨⟨hs1, hs2⟩, hs3⟩, hml⟩ := hst
 have hpre : ∀ i, i < m0 → ∃ o, l[i]? = some o ∧ (∀ d, o.dst = some d → d < n ∧ ∀ j, j < i → dso l j ≠ some d) ∧ hasSel o.op = false ∧ (∀ s, lkO o = some s → ∀ j, j < m0 → dso l j = some s → j ∈ prs o) ∧ (∀ s ∈ looks l o, ∀ j, j < m0 → dso l j = some s → j ∈ prs o ∨ i ∈ prsAt l j) := by
  intro i hi
  have h := hs1 i hi
  cases ho : l[i]? with
  | none => simp [ho] at h
  | some o =>
   simp only [ho] at h
   simp only [Bool.and_eq_true, List.all_eq_true, Bool.or_eq_true, Bool.not_eq_true', List.mem_range] at h
   obtain ⟨⟨⟨⟨h1, _⟩, h4⟩, h6⟩, h5⟩ := h
   refine ⟨o, rfl, ?_, h4, ?_, ?_⟩
   ·intro d hd
    rw [hd] at h1
    simp only [Bool.and_eq_true, List.all_eq_true, Nat.blt_eq, Bool.not_eq_true', List.mem_range] at h1
    refine ⟨h1.1, fun j hj e => ?_⟩
    have := h1.2 j hj
    rw [dsIs_iff.2 e] at this; cases this
   ·intro s hs j hj e
    rw [hs] at h6
    simp only [List.all_eq_true, Bool.or_eq_true, Bool.not_eq_true', List.mem_range] at h6
    rcases h6 j hj with h | h
    ·rw [dsIs_iff.2 e] at h; cases h
    ·simpa using h
   ·intro s hs j hj e
    rcases h5 s hs j hj with (h | h) | h
    ·rw [dsIs_iff.2 e] at h; cases h
    ·exact .inl (by simpa using h)
    ·exact .inr (by simpa using h)
 have hlt3 : ∀ i o, l[i]? = some o → ∀ j ∈ prs o, j < i := by
  intro i o ho j hj
  have hi := (List.getElem?_eq_some_iff.1 ho).1
  have h := hs3 i hi
  simp only [ho, List.all_eq_true, Nat.blt_eq] at h
  exact h j hj
 have htail : ∀ i o, m0 ≤ i → l[i]? = some o → ((∀ j, j < i → j ∈ prs o) ∨ (m0 < i ∧ i - 1 ∈ prs o) ∨ (i = m0 ∧ ∀ j, j < m0 → upsC l 4 m0 j = true)) ∧ (∀ j ∈ prs o, j < i) := by
  intro i o hi ho
  refine ⟨?_, hlt3 i o ho⟩
  have hil := (List.getElem?_eq_some_iff.1 ho).1
  have h := hs2 i hil
  rw [Bool.or_eq_true] at h
  rcases h with h | h
  ·have : i < m0 := by simpa using h
   omega
  ·simp only [ho, List.all_eq_true, List.mem_range, Bool.or_eq_true, Bool.and_eq_true, Nat.blt_eq] at h
   rcases h with (h | h) | h
   ·exact .inl fun j hj => by simpa using h j hj
   ·exact .inr (.inl ⟨h.1, by simpa using h.2⟩)
   ·exact .inr (.inr ⟨by simpa using h.1, h.2⟩)
 have hdd : ∀ i j d, i < m0 → j < m0 → dso l i = some d → dso l j = some d → i = j := by
  intro i j d hi hj e1 e2
  obtain ⟨o, ho, h4, _⟩ := hpre i hi
  obtain ⟨o', ho', h4', _⟩ := hpre j hj
  have g1 : o.dst = some d := by simpa [dso, ho] using e1
  have g2 : o'.dst = some d := by simpa [dso, ho'] using e2
  rcases Nat.lt_trichotomy i j with h | h | h
  ·exact absurd e1 ((h4' d g2).2 i h)
  ·exact h
  ·exact absurd e2 ((h4 d g1).2 j h)
 have hchain0 : ∀ i j, i < m0 → j < m0 → i < j → colAt cols i = colAt cols j → colAt cols j ≠ 0 → ∃ q, i ≤ q ∧ q < j ∧ colAt cols q = colAt cols j ∧ q ∈ prsAt l j := by
  intro i j hi hj hij he h0
  simp only [chainC, List.all_eq_true, List.any_eq_true, List.mem_range, Bool.or_eq_true, Bool.and_eq_true, Bool.not_eq_true', Nat.beq_eq, Nat.ble_eq, List.contains_iff_mem] at hch
  have := hch i hi j hj
  have e1 : Nat.blt i j = true := by simpa [Nat.blt_eq] using hij
  have e2 : Nat.beq (colAt cols i) (colAt cols j) = true := by rw [he]; exact Nat.beq_refl _
  rcases this with (h | h) | h
  ·rw [e1, e2] at h; cases h
  ·exact absurd h h0
  ·obtain ⟨q, h1, ⟨h2, h3⟩, h4⟩ := h
   exact ⟨q, h2, h1, h3, h4⟩
 have hups : ∀ (listed : Array Bool), (∀ j, j < m0 → listed.getD j false = true → ∀ i ∈ prsAt l j, listed.getD i false = true) → ∀ (n j : Nat), j < m0 → listed.getD j false = true → ∀ i, upsC l n j i = true → listed.getD i false = true := by
  intro listed hcl n
  have hin : ∀ j r, j < m0 → r ∈ prsAt l j → r < m0 := by
   intro j r hj hr
   unfold prsAt at hr
   cases ho : l[j]? with
   | none => simp [ho] at hr
   | some o =>
    simp only [ho] at hr
    have := hlt3 j o ho r hr
    omega
  induction n with
  | zero => intro j hj hl i h; exact hcl j hj hl i (by simpa [upsC] using h)
  | succ n ih =>
   intro j hj hl i h
   simp only [upsC, Bool.or_eq_true, List.any_eq_true, List.contains_iff_mem] at h
   rcases h with h | ⟨r, hr, h⟩
   ·exact hcl j hj hl i h
   ·exact ih r (hin j r hj hr) (hcl j hj hl r hr) i h
 let pj : Nat → PostC := fun j => (posts[j]?).getD trivC
 have hstab : ∀ j, StableC (colAt cols j) (pj j) := by
  intro j
  have := stab.get j
  rwa [Nat.zero_add] at this
 have hlkf : ∀ g : Fr, (∀ s, (∀ j, j < m0 → dso l j ≠ some s) → g s = fr s) → FwOk (finC l posts cols m0) fr g := by
  intro g hg
  refine FwOk.of _ _ _ fun i e s h1 h2 h3 => ?_
  simp only [finC, List.getElem?_map] at h1
  have him : i < m0 := by
   rcases Nat.lt_or_ge i m0 with h | h
   ·exact h
   ·rw [List.getElem?_eq_none (by simpa using h)] at h1; cases h1
  rw [List.getElem?_range him] at h1
  simp only [Option.map_some, Option.some.injEq] at h1
  subst h1
  simp only at h2 h3
  by_cases hw : ∃ j, j < m0 ∧ dso l j = some s
  ·obtain ⟨j, hj, e⟩ := hw
   obtain ⟨o, ho, _, _, hl, _⟩ := hpre i him
   have hlo : lkO o = some s := by simpa [lkAt, ho] using h3
   have hji := hlt3 i o ho j (hl s hlo j hj e)
   exact .inl ⟨j, _, hji, by rw [finC, List.getElem?_map, List.getElem?_range hj]; rfl, e⟩
  ·exact .inr (hg s fun j hj e => hw ⟨j, hj, e⟩).symm
 have key : ∀ (fuel : Nat) (listed : Array Bool) (a : Act) (w' : World) (c : Nat → Nat), (unl m0 listed).length + (l.length - m0) ≤ fuel → listed.size = l.length → (∀ j, m0 ≤ j → j < l.length → listed.getD j true = false) →
   (∀ j, j < m0 → listed.getD j false = true → ∀ i ∈ prsAt l j, listed.getD i false = true) → a.defers = fr.ds → a.tmps.size = n → RelG β c0 w w' → FreshG c0 w c → (∀ j, j < m0 → listed.getD j false = true → (colAt cols j = 0 ∨ ∀ j', j < j' → j' < m0 → colAt cols j' = colAt cols j → listed.getD j' false = false) → pj j (vAt l (frOf a) j) w' c) → (∀ s, (∀ j, j < m0 → listed.getD j false = true → dso l j ≠ some s) → frOf a s = fr s) → (∀ k, k ≠ 0 → (∀ j, j < m0 → colAt cols j = k → listed.getD j false = false) → ∀ b, b < w.heap.size → c0 b = k → w'.heap[b]? = w.heap[b]?) →
   wpAnyIn (Fw rd) N P .any l.toArray (post n K E R) fuel listed a w' := by
  intro fuel
  induction fuel with
  | zero =>
   intro listed a w' c hf hsz htl hcl hd hn hx hc0 hp hoff hk0
   have hu : unl m0 listed = [] := List.eq_nil_of_length_eq_zero (by omega)
   have hall : ∀ j, j < m0 → listed.getD j false = true := by
    intro j hj
    have : j ∉ unl m0 listed := by rw [hu]; simp
    simp only [unl, List.mem_filter, List.mem_range, hj, true_and, Bool.not_eq_true', Bool.not_eq_false] at this
    have h5 : j < listed.size := by omega
    simpa [Array.getD, h5] using this
   obtain ⟨fr', h1, hds, h2, h3⟩ := JA _ fr (frOf a) w' c _ (fin w' c hx hc0) (hlkf (frOf a) (fun s hs => hoff s fun j hj _ => hs j hj)) (by
    intro p hpm
    simp only [finC, List.mem_map, List.mem_range] at hpm
    obtain ⟨j, hj, rfl⟩ := hpm
    refine ⟨vAt l (frOf a) j, ?_, fun d hd => by simp only at hd; simp [vAt, hd], fun s hd hs => by simp only at hd hs; simp [vAt, hd, hs]⟩
    simp only
    split
    ·rename_i hlast
     refine hp j hj (hall j hj) ?_
     simp only [lastC, Bool.or_eq_true, Nat.beq_eq, List.all_eq_true, List.mem_range, Bool.not_eq_true', Bool.and_eq_true] at hlast
     rcases hlast with h | h
     ·exact .inl h
     ·right
      intro j' h1 h2 h3
      exfalso
      have := h j' h2
      have e1 : Nat.blt j j' = true := by simpa [Nat.blt_eq] using h1
      have e2 : Nat.beq (colAt cols j') (colAt cols j) = true := by rw [h3]; exact Nat.beq_refl _
      rw [e1, e2] at this
      cases this
    ·trivial)
   have efr : fr' = frOf a := by
    refine Fr.ext' (fun s => ?_) (hds.trans hd.symm)
    by_cases hs : ∃ p ∈ finC l posts cols m0, p.1 = some s
    ·exact h2 s hs
    ·rw [h3 s (fun p hp e => hs ⟨p, hp, e⟩)]
     refine (hoff s fun j hj _ e => hs ⟨(dso l j, lkAt l j, if lastC cols m0 j then pj j else trivC), ?_, e⟩).symm
     simp only [finC, List.mem_map, List.mem_range]
     exact ⟨j, hj, rfl⟩
   subst efr
   exact Va (m0 := m0) rfl (fun i o hi ho => ⟨(htail i o hi ho).1.imp_right (Or.imp_right And.left), (htail i o hi ho).2⟩) 0 m0 listed a w' (Nat.le_refl _) (by omega) hsz (fun j hj _ => hall j hj) (fun j hj hjl => htl j hj hjl) (h1 N _ (fun a' fr' w'' i1 i2 => ⟨fr', i1, i2⟩) a ⟨hn, rfl⟩)
  | succ fuel ih =>
   intro listed a w' c hf hsz htl hcl hd hn hx hc0 hp hoff hk0
   by_cases hu : unl m0 listed = []
   ·have hall : ∀ j, j < m0 → listed.getD j false = true := by
     intro j hj
     have : j ∉ unl m0 listed := by rw [hu]; simp
     simp only [unl, List.mem_filter, List.mem_range, hj, true_and, Bool.not_eq_true', Bool.not_eq_false] at this
     have h5 : j < listed.size := by omega
     simpa [Array.getD, h5] using this
    obtain ⟨fr', h1, hds, h2, h3⟩ := JA _ fr (frOf a) w' c _ (fin w' c hx hc0) (hlkf (frOf a) (fun s hs => hoff s fun j hj _ => hs j hj)) (by
     intro p hpm
     simp only [finC, List.mem_map, List.mem_range] at hpm
     obtain ⟨j, hj, rfl⟩ := hpm
     refine ⟨vAt l (frOf a) j, ?_, fun d hd => by simp only at hd; simp [vAt, hd], fun s hd hs => by simp only at hd hs; simp [vAt, hd, hs]⟩
     simp only
     split
     ·rename_i hlast
      refine hp j hj (hall j hj) ?_
      simp only [lastC, Bool.or_eq_true, Nat.beq_eq, List.all_eq_true, List.mem_range, Bool.not_eq_true', Bool.and_eq_true] at hlast
      rcases hlast with h | h
      ·exact .inl h
      ·right
       intro j' h1 h2 h3
       exfalso
       have := h j' h2
       have e1 : Nat.blt j j' = true := by simpa [Nat.blt_eq] using h1
       have e2 : Nat.beq (colAt cols j') (colAt cols j) = true := by rw [h3]; exact Nat.beq_refl _
       rw [e1, e2] at this
       cases this
     ·trivial)
    have efr : fr' = frOf a := by
     refine Fr.ext' (fun s => ?_) (hds.trans hd.symm)
     by_cases hs : ∃ p ∈ finC l posts cols m0, p.1 = some s
     ·exact h2 s hs
     ·rw [h3 s (fun p hp e => hs ⟨p, hp, e⟩)]
      refine (hoff s fun j hj _ e => hs ⟨(dso l j, lkAt l j, if lastC cols m0 j then pj j else trivC), ?_, e⟩).symm
      simp only [finC, List.mem_map, List.mem_range]
      exact ⟨j, hj, rfl⟩
    subst efr
    refine Va (m0 := m0) rfl (fun i o hi ho => ⟨(htail i o hi ho).1.imp_right (Or.imp_right And.left), (htail i o hi ho).2⟩) (fuel + 1) m0 listed a w' (Nat.le_refl _) (by rw [hu] at hf; simp at hf; omega) hsz (fun j hj _ => hall j hj) (fun j hj hjl => htl j hj hjl) ?_
    exact h1 N _ (fun a' fr' w'' i1 i2 => ⟨fr', i1, i2⟩) a ⟨hn, rfl⟩
   ·refine ⟨?_, ?_⟩
    ·-- the least that is not done is ready
     intro hr
     exfalso
     obtain ⟨i, hi, hleast⟩ : ∃ i, i ∈ unl m0 listed ∧ ∀ j, j ∈ unl m0 listed → i ≤ j := by
      obtain ⟨i, h1, h2⟩ := Jv (fun i => i ∈ unl m0 listed) (by
       cases hul : unl m0 listed with
       | nil => exact absurd hul hu
       | cons x xs => exact ⟨x, by simp⟩)
      exact ⟨i, h1, h2⟩
     have hi' := hi
     simp only [unl, List.mem_filter, List.mem_range, Bool.not_eq_true'] at hi'
     have hil : i < l.length := by omega
     have : i ∈ Region.ready .any l.toArray listed := by
      rw [mem_ready]
      refine ⟨hi'.2, l[i], by simp [hil], ?_⟩
      intro e he hb
      have hp1 : e.on ∈ prs l[i] := by
       simp only [prs, List.mem_map, List.mem_filter]
       exact ⟨e, ⟨by simpa using he, hb⟩, rfl⟩
      have hlt := hlt3 i l[i] (List.getElem?_eq_getElem hil) _ hp1
      have hnot : e.on ∉ unl m0 listed := fun h => by have := hleast _ h; omega
      simp only [unl, List.mem_filter, List.mem_range, not_and, Bool.not_eq_true', Bool.not_eq_false] at hnot
      have := hnot (by omega)
      have h5 : e.on < listed.size := by omega
      simpa [Array.getD, h5] using this
     rw [hr] at this; simp at this
    ·intro i hi
     rw [mem_ready] at hi
     obtain ⟨hiu, o, ho, hpr⟩ := hi
     have ho' : l[i]? = some o := by simpa using ho
     have hil : i < l.length := (List.getElem?_eq_some_iff.1 ho').1
     have hprs : ∀ j ∈ prs o, listed.getD j false = true := by
      intro j hj
      simp only [prs, List.mem_map, List.mem_filter] at hj
      obtain ⟨e, ⟨he, hb⟩, rfl⟩ := hj
      exact hpr e (by simpa using he) hb
     have him : i < m0 := by
      rcases Nat.lt_or_ge i m0 with h | h
      ·exact h
      ·exfalso
       cases hul : unl m0 listed with
       | nil => exact hu hul
       | cons x xs =>
        have hx' : x ∈ unl m0 listed := by rw [hul]; simp
        simp only [unl, List.mem_filter, List.mem_range, Bool.not_eq_true'] at hx'
        rcases (htail i o h ho').1 with hq | ⟨hq1, hq2⟩ | ⟨hq1, hq2⟩
        ·have := hprs x (hq x (by omega))
         have h5 : x < listed.size := by omega
         simp [Array.getD, h5] at this hx'
         rw [this] at hx'; simp at hx'
        ·have := hprs _ hq2
         have h6 := htl (i - 1) (by omega) (by omega)
         have h5 : i - 1 < listed.size := by omega
         simp [Array.getD, h5] at this h6
         rw [this] at h6; simp at h6
        ·have hu2 := hq2 x hx'.1
         have hpi : prsAt l m0 = prs o := by simp [prsAt, ← hq1, ho']
         have hxl : listed.getD x false = true := by
          rw [upsC, hpi, Bool.or_eq_true] at hu2
          rcases hu2 with hu2 | hu2
          ·exact hprs x (by simpa using hu2)
          ·obtain ⟨r, hr1, hr2⟩ := List.any_eq_true.1 hu2
           have hrl : r < m0 := by have := (htail i o h ho').2 r hr1; omega
           exact hups listed hcl 3 r hrl (hprs r hr1) x hr2
         have h5 : x < listed.size := by omega
         simp [Array.getD, h5] at hxl hx'
         rw [hxl] at hx'; simp at hx'
     obtain ⟨o2, ho2, hdst, hsel, hlink, hlooks⟩ := hpre i him
     rw [ho'] at ho2
     obtain rfl : o = o2 := by simpa using ho2
     have hdsl : dso l i = o.dst := by simp [dso, ho']
     have hb := OblC.get (l.take m0) 0 ob i o (by rw [List.getElem?_take]; simp [him, ho']) w' c hx hc0 (by
      rw [Nat.zero_add, hpl]
      intro k hk hbe b hb1 hb2
      refine hk0 k hk (fun j hj he => ?_) b hb1 hb2
      simp only [beforeC, List.all_eq_true, List.mem_range, Bool.or_eq_true, Bool.not_eq_true', Nat.beq_eq, List.contains_iff_mem] at hbe
      have h5 : j < listed.size := by omega
      have h6 : i < listed.size := by omega
      have hif : listed.getD i false = false := by simp [Array.getD, h6] at hiu ⊢; exact hiu
      rcases hbe j hj with (h | h) | h
      ·have e2 : Nat.beq (colAt cols j) k = true := by rw [he]; exact Nat.beq_refl _
       rw [e2] at h; cases h
      ·subst h; exact hif
      ·cases hx9 : listed.getD j false with
       | false => rfl
       | true => rw [hups listed hcl 4 j hj hx9 i h] at hif; cases hif)
     rw [Nat.zero_add] at hb
     have hprlt : ∀ j ∈ prs o, j < i := hlt3 i o ho'
     obtain ⟨fr', h1, hds, h2, h3⟩ := JA _ fr (frOf a) w' c _ hb (FwOk.no _ _ _ fun e he => by
       simp only [predC, List.mem_map] at he
       obtain ⟨j, _, rfl⟩ := he
       rfl) (by
      intro p hpm
      simp only [predC, List.mem_map] at hpm
      obtain ⟨j, hj, rfl⟩ := hpm
      refine ⟨vAt l (frOf a) j, ?_, fun d hd => by simp only at hd; simp [vAt, hd], fun s hd hs => by simp at hs⟩
      simp only
      split
      ·rename_i hus
       refine hp j (by have := hprlt j hj; omega) (hprs j hj) ?_
       simp only [useC, Bool.or_eq_true, Nat.beq_eq, List.all_eq_true, List.mem_range, Bool.not_eq_true', Bool.and_eq_true, List.contains_iff_mem] at hus
       rcases hus with h | h
       ·exact .inl h
       ·right
        intro j' g1 g2 g3
        have e1 : Nat.blt j j' = true := by simpa [Nat.blt_eq] using g1
        have e2 : Nat.beq (colAt cols j') (colAt cols j) = true := by rw [g3]; exact Nat.beq_refl _
        have g4 := h j' (by omega)
        rcases g4 with (g4 | g4) | g4
        ·rw [e1, e2] at g4; cases g4
        ·subst g4
         have h5 : j' < listed.size := by omega
         simp [Array.getD, h5] at hiu ⊢
         exact hiu
        ·have hne : listed.getD i false = false := by
          have h5 : i < listed.size := by omega
          simp [Array.getD, h5] at hiu ⊢
          exact hiu
         cases hx9 : listed.getD j' false with
         | false => rfl
         | true =>
          exfalso
          have := hups listed hcl 4 j' (by omega) hx9 i g4
          rw [this] at hne; cases hne
      ·trivial)
     -- the frame that the obligation speaks of agrees on all that o looks at
     have hag : ∀ s ∈ looks l o, fr' s = frOf a s := by
      intro s hs
      by_cases hin : ∃ p ∈ predC l posts cols i o, p.1 = some s
      ·exact h2 s hin
      ·rw [h3 s (fun p hp e => hin ⟨p, hp, e⟩)]
       refine (hoff s fun j hj hl9 e => ?_).symm
       rcases hlooks s hs j hj e with h8 | h8
       ·refine hin ⟨(dso l j, none, if useC l cols i j then pj j else trivC), ?_, e⟩
        simp only [predC, List.mem_map]
        exact ⟨j, h8, rfl⟩
       ·have h9 := hcl j hj hl9 i h8
        have h5 : i < listed.size := by omega
        simp [Array.getD, h5] at h9 hiu
        rw [h9] at hiu; cases hiu
     have heq : execOp a.eval o = execOp (ev fr') o := by
      refine execOp_congr o (by
       intro cs b e
       rw [e] at hsel; cases hsel) ?_
      intro x hx
      cases x with
      | tmp s =>
       have : s ∈ looks l o := by
        simp only [looks, Oper.looksAt, List.mem_append, List.mem_filterMap]
        exact .inl ⟨.tmp s, by simpa using hx, rfl⟩
       exact (hag s this).symm
      | _ => rfl
     have hlkv : lkV o fr' = lkV o (frOf a) := by
      unfold lkV
      cases hx8 : lkO o with
      | none => rfl
      | some s => exact hag s (lkO_look hx8)
     have hwt : Region.wanted o (yielded l.toArray a.tmps) = Region.wanted o (yF l.toArray fr') := by
      unfold Region.wanted
      cases hg : o.guard with
      | none => rfl
      | some p =>
       obtain ⟨gj, gb⟩ := p
       simp only [yF_eq]
       unfold yF
       cases hgd : (l.toArray[gj]?).bind (·.dst) with
       | none => rfl
       | some s =>
        have : s ∈ looks l o := by
         simp only [looks, Oper.looksAt, List.mem_append, hg]
         right; rw [hgd]; simp
        simp only [hag s this]
     have hchain : ∀ i' j, i' < m0 → j < m0 → i' < j → listed.getD j false = true → listed.getD i' true = false → colAt cols i' ≠ 0 → colAt cols i' ≠ colAt cols j := by
      intro i' j hi' hj hij hl2 hl3 hz he
      have hdown : ∀ (m j : Nat), j ≤ m → j < m0 → i' < j → listed.getD j false = true → colAt cols i' = colAt cols j → listed.getD i' false = true := by
       intro m
       induction m with
       | zero => intro j h1 _ h3; omega
       | succ m ihm =>
        intro j h1 h2 h3 h4 h5
        obtain ⟨q, q1, q2, q3, q4⟩ := hchain0 i' j hi' h2 h3 h5 (by rw [← h5]; exact hz)
        have hq := hcl j h2 h4 q q4
        rcases Nat.lt_or_ge i' q with h | h
        ·exact ihm q (by omega) (by omega) h hq (h5.trans q3.symm)
        ·have : q = i' := by omega
         rw [← this]; exact hq
      have := hdown j j (Nat.le_refl _) hj hij hl2 he
      have h5 : i' < listed.size := by omega
      simp [Array.getD, h5] at this hl3
      rw [this] at hl3; cases hl3
     have hnext : ∀ v w'' c'', StepC β (colAt cols i) w' c w'' c'' → pj i (match o.dst with | some _ => v | none => lkV o (frOf a)) w'' c'' → wpAnyIn (Fw rd) N P .any l.toArray (post n K E R) fuel (listed.setIfInBounds i true) (a.put o.dst v) w'' := by
      intro v w'' c'' hx2 hpv
      have his : Is (a.put o.dst v) n ((frOf a).put o.dst v) := J4 ⟨hn, rfl⟩ (by
       cases hx5 : o.dst with
       | none => rfl
       | some d => simpa [dstOk, Nat.blt_eq] using (hdst d hx5).1) v
      refine ih _ _ _ c'' ?_ (by simpa using hsz) ?_ ?_ ((show (a.put o.dst v).defers = a.defers by cases o.dst <;> rfl).trans hd) his.sz (hx2.over hx hc0) (hx2.fresh hx hc0) ?_ ?_ ?_
      ·have := unl_set (m0 := m0) him (by omega) hiu; omega
      ·intro j hj hjl
       rw [getD_set_ne true (by omega)]; exact htl j hj hjl
      ·intro j hj hl2 q hq
       by_cases e : j = i
       ·subst e
        have h6 : q ∈ prs o := by simpa [prsAt, ho'] using hq
        have h7 := hprs q h6
        have h8 : q ≠ j := by have := hprlt q h6; omega
        rw [getD_set_ne false (fun h => h8 h.symm)]; exact h7
       ·rw [getD_set_ne false (fun h => e h.symm)] at hl2
        have h7 := hcl j hj hl2 q hq
        by_cases e2 : q = i
        ·subst e2
         have h5 : q < listed.size := by omega
         simp [Array.getD, h5]
        ·rw [getD_set_ne false (fun h => e2 h.symm)]; exact h7
      ·intro j hj hl2 hlast
       rw [his.fr]
       by_cases e : j = i
       ·subst e
        have : vAt l ((frOf a).put o.dst v) j = (match o.dst with | some _ => v | none => lkV o (frOf a)) := by
         unfold vAt
         rw [hdsl]
         cases hx5 : o.dst with
         | none => simp only [Fr.put, lkV, lkAt, ho', Option.bind_some]
         | some d => simp only [Fr.put]; exact Yj
        rw [this]
        exact hpv
       ·have hl2' : listed.getD j false = true := by rwa [getD_set_ne false (fun h => e h.symm)] at hl2
        have hsame : vAt l ((frOf a).put o.dst v) j = vAt l (frOf a) j := by
         unfold vAt
         cases hx6 : dso l j with
         | none =>
          simp only
          cases hx7 : lkAt l j with
          | none => rfl
          | some q =>
           cases hx5 : o.dst with
           | none => rfl
           | some d =>
            simp only [Fr.put]
            refine JF fun e2 => ?_
            subst e2
            obtain ⟨oj, hoj, _, _, hlj, _⟩ := hpre j hj
            have h8 := hlj q (by simpa [lkAt, hoj] using hx7) i him (by rw [hdsl, hx5])
            have h9 := hcl j hj hl2' i (by simpa [prsAt, hoj] using h8)
            have h5 : i < listed.size := by omega
            simp [Array.getD, h5] at h9 hiu
            rw [h9] at hiu; cases hiu
         | some q =>
          cases hx5 : o.dst with
          | none => rfl
          | some d =>
           simp only [Fr.put]
           refine JF fun e2 => e ?_
           subst e2
           exact hdd j i q hj him hx6 (by rw [hdsl, hx5])
        rw [hsame]
        rw [getD_set_ne false (fun h => e h.symm)] at hl2
        refine hstab j _ _ _ _ _ (colAt cols i) ?_ hx2.weak (hp j hj hl2 ?_)
        ·by_cases h0 : colAt cols i = 0
         ·exact .inl h0
         ·right
          intro he
          rcases hlast with h | h
          ·rw [h] at he; exact h0 he
          ·have hij : j < i ∨ i < j := by omega
           rcases hij with hij | hij
           ·have h9 := h i hij him he
            have h5 : i < listed.size := by omega
            simp [Array.getD, h5] at h9
           ·exact hchain i j him hj hij hl2 hiu h0 he
        ·rcases hlast with h | h
         ·exact .inl h
         ·right
          intro j' g1 g2 g3
          have h9 := h j' g1 g2 g3
          by_cases e3 : j' = i
          ·subst e3
           have h5 : j' < listed.size := by omega
           simp [Array.getD, h5] at h9
          ·rwa [getD_set_ne false (fun h => e3 h.symm)] at h9
      ·intro s hs
       have h5 : i < listed.size := by omega
       have hset : (listed.setIfInBounds i true).getD i false = true := by simp [Array.getD, h5]
       have hs' : ∀ j, j < m0 → listed.getD j false = true → dso l j ≠ some s := by
        intro j hj hl9
        refine hs j hj ?_
        by_cases e : j = i
        ·subst e; exact hset
        ·rwa [getD_set_ne false (fun h => e h.symm)]
       rw [his.fr]
       cases hx5 : o.dst with
       | none => exact hoff s hs'
       | some d =>
        simp only [Fr.put]
        rw [JF (fun h => hs i him hset (by rw [hdsl, hx5, h]))]
        exact hoff s hs'
      ·intro k hk hno b hb1 hb2
       have hki : colAt cols i ≠ k := by
        intro he
        have := hno i him he
        have h6 : i < listed.size := by omega
        simp [Array.getD, h6] at this
       have h1 : w''.heap[b]? = w'.heap[b]? := hx2.bel.block b (Nat.lt_of_lt_of_le hb1 hx.size) fun hd2 => hki (by rw [← hd2.2, hc0 b hb1, hb2])
       rw [h1]
       refine hk0 k hk (fun j hj he => ?_) b hb1 hb2
       have := hno j hj he
       by_cases e : j = i
       ·subst e; exact absurd he hki
       ·rwa [getD_set_ne false (fun h => e h.symm)] at this
     simp only [wpOpIn, ho, hwt]
     rcases h1 with ⟨hw, h1⟩ | ⟨hw, h1⟩
     ·rw [if_pos hw]
      unfold Oper.wpIn
      refine ⟨fun _ _ => trivial, ?_⟩
      rw [show (Fw rd).round = rd from rfl]
      rw [← heq] at h1
      rcases h1 with ⟨v, w'', c'', hr, hx2, hS⟩ | ⟨f, args, w0, hr, hsome, hok⟩
      ·rcases hr with ⟨hr, hsome⟩ | ⟨hr, hu⟩
       ·rw [Z4 hr (fun _ e => by cases e)]; exact hnext v w'' c'' hx2 (by cases hx7 : o.dst with | none => rw [hx7] at hsome; cases hsome | some d => exact hS)
       ·rw [Z4 hr (fun _ e => by cases e)]; exact hnext undef w'' c'' hx2 (by cases hx7 : o.dst with | none => rw [hu, hlkv] at hS; exact hS | some d => rw [hu, lkV_dst hx7] at hS; exact hS)
      ·rw [Z4 hr (fun _ e => by cases e)]
       refine ⟨fun e => (by cases e), J5 (Calls.mono hok ?_)⟩
       rintro e w'' ⟨v, rfl, c'', hx2, hS⟩
       exact hnext v w'' c'' hx2 (by cases hx7 : o.dst with | none => rw [hx7] at hsome; cases hsome | some d => exact hS)
     ·rw [hw]
      exact ⟨fun _ _ => trivial, hnext undef w' c (StepC.rfl' _ _ _) (by cases hx7 : o.dst with | none => rw [hlkv] at h1; exact h1 | some d => rw [lkV_dst hx7] at h1; exact h1)⟩
 have hx0 : RelG β c0 w { w with drawn := w.drawn + 1 } := (Ext.drew w).mono fun _ _ h => h.elim
 refine wpIn_region_any hm (key _ _ a _ c0 ?_ (by simp) ?_ ?_ ha.df ha.sz hx0 (fun _ _ => rfl) ?_ ?_ (fun _ _ _ _ _ _ => rfl))
 ·have : (unl m0 (Array.replicate l.toArray.size false)).length ≤ m0 := by
   unfold unl; exact Nat.le_trans (List.length_filter_le _ _) (by simp)
  simp at this ⊢; omega
 ·intro j _ hj; simp [Array.getD, hj]
 ·intro j hj h
  have hjl : j < l.length := by omega
  simp [Array.getD, hjl] at h
 ·intro j hj h
  have hjl : j < l.length := by omega
  simp [Array.getD, hjl] at h
 ·intro s _; rw [ha.fr]
theorem Ql {c0 : Nat → Nat} {posts : List PostC} {cols : List Nat} {o : Oper} {r : List Oper} {i : Nat} (h : ∀ w' c, RelG β c0 w w' → FreshG c0 w c → KeepC l cols posts.length i c0 w w' → bindC (predC l posts cols i o) fr w' c fun fr' => OpC β (colAt cols i) P l.toArray o fr' w' c ((posts[i]?).getD trivC)) (k : OblC β c0 P l posts cols fr w r (i + 1)) : OblC β c0 P l posts cols fr w (o :: r) i := ⟨h, k⟩
theorem Q8 {c0 : Nat → Nat} {posts : List PostC} {cols : List Nat} {i : Nat} : OblC β c0 P l posts cols fr w [] i := trivial
variable {c : Nat → Nat} {k : Nat}
theorem Qh {d : Nat} {q : Option Nat} {V : Value} {r : List (Option Nat × Option Nat × PostC)} {F : Fr → Prop} (h : bindC r (fr.set d V) w c F) : bindC ((some d, q, peqC V) :: r) fr w c F := by
 intro v hv
 cases hv
 exact h
theorem Qz {d : Nat} {q : Option Nat} {p : PostC} {r : List (Option Nat × Option Nat × PostC)} {F : Fr → Prop} (h : ∀ v, p v w c → bindC r (fr.set d v) w c F) : bindC ((some d, q, p) :: r) fr w c F := h
theorem Y1 {p : PostC} {r : List (Option Nat × Option Nat × PostC)} {F : Fr → Prop} (h : ∀ u, p u w c → bindC r fr w c F) : bindC ((none, none, p) :: r) fr w c F := fun ⟨u, hu⟩ => h u hu
theorem JG {s : Nat} {v : Value} {p : PostC} {r : List (Option Nat × Option Nat × PostC)} {F : Fr → Prop} (hv : fr s = v) (h : p v w c → bindC r fr w c F) : bindC ((none, some s, p) :: r) fr w c F := fun hp => h (hv ▸ hp)
theorem Qi {F : Fr → Prop} (h : F fr) : bindC [] fr w c F := h
theorem OpC.mono {ops : Array Oper} {o : Oper} {S S' : PostC} (h : OpC β k P ops o fr w c S) (hs : ∀ v w' c', S v w' c' → S' v w' c') : OpC β k P ops o fr w c S' := by
 rcases h with ⟨h1, h2⟩ | ⟨h1, h2⟩
 ·left
  refine ⟨h1, ?_⟩
  rcases h2 with ⟨v, w', c', g1, g2, g3⟩ | ⟨f, args, w0, g1, g0, g2⟩
  ·exact .inl ⟨v, w', c', g1, g2, hs _ _ _ g3⟩
  ·exact .inr ⟨f, args, w0, g1, g0, g2.mono fun v w' ⟨c', a, b⟩ => ⟨c', a, hs _ _ _ b⟩⟩
 ·exact .inr ⟨h1, hs _ _ _ h2⟩
def gC (g : Bool) (S : PostC) : PostC := fun v w c => (g = true → S v w c) ∧ (g = false → v = undef)
def newC (c : Nat → Nat) (w : World) (k : Nat) : Nat → Nat := fun b => if b < w.heap.size then c b else k
theorem ZQ {b : Nat} (h : b < w.heap.size) : newC c w k b = c b := if_pos h
theorem Z6 {b : Nat} (h : w.heap.size ≤ b) : newC c w k b = k := if_neg (by omega)
def postOwn {α : Type} (enc : α → List Value) (k : Nat) (e : TypeId) (kc : Nat) (l : List α) : PostC := fun v w c => Own enc k e (fun b => c b = kc) w v l
theorem Zc {α : Type} {enc : α → List Value} {k kc : Nat} {e : TypeId} {l : List α} : StableC kc (postOwn enc k e kc l) := by
 intro v w c w' c' q hq hx hp
 have h : Own enc k e (fun b => c b = kc) w' v l := Own.keepD hp hx.bel fun g _ h1 h2 => by
  rcases hq with h | h
  ·exact h2.1 h
  ·exact h (h2.2.symm.trans h1)
 exact ⟨h.row, fun g hg => (hx.col g (Own.lt hp g hg)).trans (h.loc g hg)⟩
def postBox (w0 : World) (T : TypeId) (cs : List Value) : PostC := fun v w c => ∃ b, v = .pointer (some ⟨b, 0, none⟩) ∧ w0.heap.size ≤ b ∧ Box w b T cs ∧ c b = 0
theorem Je {w0 : World} {T : TypeId} {cs : List Value} {kc : Nat} : StableC kc (postBox w0 T cs) := by
 rintro v w c w' c' q hq hx ⟨b, h1, h2, h3, h4⟩
 exact ⟨b, h1, h2, h3.keep hx.bel fun hd => hd.1 (by rw [← hd.2]; exact h4), (hx.col b h3.lt).trans h4⟩
section
variable {ops : Array Oper} {d : Nat} {op : Op} {ty : TypeId} {pos : String} {after : Array Edge} {v : Value} {f : FuncId} {args : Array Value} {b cc oc : Bool} {S : PostC}
theorem Qx {o : Oper} (hg : o.guard = none) (h : xop P fr w o = .ok (.value v) w) (hd : o.dst.isSome = true := by rfl) : OpC β k P ops o fr w c (peqC v) :=
 .inl ⟨by simp [Region.wanted, hg], .inl ⟨v, w, c, .inl ⟨h, hd⟩, StepC.rfl' _ _ _, rfl⟩⟩
theorem OpC_vp {o : Oper} {p : PostC} (hg : o.guard = none) (h : xop P fr w o = .ok (.value v) w) (hp : p v w c) (hd : o.dst.isSome = true := by rfl) : OpC β k P ops o fr w c p :=
 .inl ⟨by simp [Region.wanted, hg], .inl ⟨v, w, c, .inl ⟨h, hd⟩, StepC.rfl' _ _ _, hp⟩⟩
theorem Jf {o : Oper} (hg : o.guard = none) (h : xop P fr w o = .ok (.enter f args) w) (hk : Ok P f args w fun v' w' => v' = v ∧ Ext β w w') (hd : o.dst.isSome = true := by rfl) : OpC β k P ops o fr w c (peqC v) :=
 .inl ⟨by simp [Region.wanted, hg], .inr ⟨f, args, w, h, hd, hk.mono fun _ _ ⟨a, b⟩ => ⟨c, StepC.ext b fun _ _ => rfl, a⟩⟩⟩
theorem OpC_box {w0 : World} {T : TypeId} {z : Value} {o : Oper} (hw : w0.heap.size ≤ w.heap.size) (hg : o.guard = none) (h : xop P fr w o = .ok (.value (.pointer (some ⟨w.heap.size, 0, none⟩))) (w.alloc (.cells z.cells T))) (hd : o.dst.isSome = true := by rfl) : OpC β k P ops o fr w c (postBox w0 T z.cells.toList) :=
 .inl ⟨by simp [Region.wanted, hg], .inl ⟨_, _, newC c w 0, .inl ⟨h, hd⟩, StepC.ext (Ext.alloc _ _) fun _ hb => ZQ hb, w.heap.size, rfl, hw, Box.alloc w z.cells T, Z6 (Nat.le_refl _)⟩⟩
theorem OpC_guard (i g : Nat) (hi : (ops[i]?).bind (·.dst) = some g) (hc : fr g = .bool cc) (h : (cc == b) = true → OpC β k P ops ⟨some d, op, ty, pos, after, none⟩ fr w c S) : OpC β k P ops ⟨some d, op, ty, pos, after, some (i, b)⟩ fr w c (gC (cc == b) S) := by
 cases hcb : (cc == b) with
 | true =>
  rcases h hcb with ⟨h1, h2⟩ | ⟨h1, h2⟩
  ·left
   refine ⟨by simp only [Region.wanted, yF_of hi hc]; simpa using hcb, ?_⟩
   rcases h2 with ⟨v, w', c', g1, g2, g3⟩ | ⟨f, args, w0, g1, g0, g2⟩
   ·exact .inl ⟨v, w', c', g1, g2, fun _ => g3, fun h => by cases h⟩
   ·exact .inr ⟨f, args, w0, g1, g0, g2.mono fun v w' ⟨c', x, y⟩ => ⟨c', x, fun _ => y, fun h => by cases h⟩⟩
  ·simp [Region.wanted] at h1
 | false => exact .inr ⟨by simp only [Region.wanted, yF_of hi hc]; cases cc <;> cases b <;> simp_all, fun h => by simp at h, fun _ => rfl⟩
theorem ZF (i g : Nat) (hi : (ops[i]?).bind (·.dst) = some g) (hc : fr g = .bool b) (h : OpC β k P ops ⟨some d, op, ty, pos, after, none⟩ fr w c S) : OpC β k P ops ⟨some d, op, ty, pos, after, some (i, b)⟩ fr w c S :=
 (OpC_guard i g hi hc fun _ => h).mono fun _ _ _ hp => hp.1 (by cases b <;> rfl)
end
section
variable {α : Type} {enc : α → List Value} {s : Nat} {T e : TypeId} {by_ : Nat} {z : Value} {ops : Array Oper} {d : Nat} {ty : TypeId} {pos : String} {after : Array Edge} {kc : Nat}
theorem Jg {x y : Operand} {v : Value} {l news : List α} {a : Option Addr} {m cp : Nat} {F : Nat → Prop} (h0 : kc ≠ 0) (he : EncOk enc s) (ht : ElT P T e s by_ z) (hx : ev fr x = v) (hy : ev fr y = .slice a m cp) (ho : Own enc s e (fun b => c b = kc) w v l)
  (hn : Sl enc s F w a cp news) (hm : news.length = m) (hb : (l.length + news.length) * by_ ≤ 140737488355328) :
  OpC False kc P ops ⟨some d, .call { callee := .builtin .append, args := #[x, y], argTypes := #[T, T] }, ty, pos, after, none⟩ fr w c (postOwn enc s e kc (l ++ news)) := by
 have hO : Own enc s e (fun g => newC c w kc g = kc) w v l := ho.mono fun g hg h => (ZQ hg).trans h
 obtain ⟨i, hi, hz, hs, hby⟩ := ht.inf
 have key : ∃ v' w', (Builtin.append_ #[T, T] ty #[v, .slice a m cp]).run P w = .ok v' w' ∧ Bel False (fun g => newC c w kc g = kc) w w' ∧ Own enc s e (fun g => newC c w kc g = kc) w' v' (l ++ news) := by
  cases a with
  | none =>
   have hc := hn.nil rfl
   have hl := hn.le
   subst hm
   have h0 : news = [] := List.eq_nil_of_length_eq_zero (by omega)
   subst h0
   subst hc
   exact ⟨v, w, run_append_owned_none (P := P) w 0 T ty e i s ht.sl hi v l.length (l.flatMap enc) ho.row, Bel.refl _ _, by rw [List.append_nil]; exact hO⟩
  | some ad =>
   refine app_run news he ht hO ?_ hm (by rw [← hm]; exact hb) (fun g hg => Z6 hg)
   intro j u hj
   have hne : news ≠ [] := by rintro rfl; simp at hj
   obtain ⟨b, off, h1, h2, h3⟩ := hn.cells he hne
   simp only [Option.some.injEq] at h1
   subst h1
   have := h3 j u hj
   unfold Addr.add
   by_cases h : j = 0
   ·subst h; simpa using this
   ·rw [if_neg h]; exact this
 obtain ⟨v', w', hr, h2, h3⟩ := key
 refine .inl ⟨rfl, .inl ⟨v', w', newC c w kc, .inl ⟨?_, rfl⟩, ⟨h2.mono fun b hb h => ⟨h0, (ZQ hb).symm.trans h⟩, fun b hb => ZQ hb⟩, h3⟩⟩
 simp [execOp, resolve, invoke, builtin, hx, hy, hr]
theorem Jw {len : Nat} {parts : Array (Nat × Operand)} {vs : List Value} (news : List α)
  (he : EncOk enc s) (ht : ElT P T e s by_ z) (hi : parts.toList.map (·.1) = idxs 0 (parts.toList.map (·.2))) (hv : (parts.toList.map fun p => ev fr p.2) = vs) (hs : sizesOk s vs) (hf : flat vs = news.flatMap enc) (hl : news.length = len) (hp : parts.toList.length = len) (hsm : Nat.ble (len * s) 16777216 = true) :
  OpC β kc P ops ⟨some d, .buildSlice T len parts, ty, pos, after, none⟩ fr w c (fun v w c => ∃ a, v = .slice a len len ∧ postOwn enc s e kc news v w c) := by
 have hpn : (parts.map fun (x : Nat × Operand) => (x.1, ev fr x.2)).toList = number 0 vs := by
  rw [← hv, Array.toList_map]; exact number_of _ _ _ hi
 have hlen : vs.length = len := by rw [← hv, List.length_map]; exact hp
 have hr := run_bs (w := w) (len := len) ht hpn hs.mem hlen (by simpa using hsm)
 have hle : len ≤ 16777216 := by
  have h1 : len * s ≤ 16777216 := by simpa using hsm
  exact Nat.le_trans (Nat.le_mul_of_pos_right _ he.pos) h1
 refine .inl ⟨rfl, .inl ⟨.slice (some ⟨w.heap.size, 0, none⟩) len len, w.alloc (.cells (flat vs).toArray e), newC c w kc, .inl ⟨?_, rfl⟩, StepC.ext (Ext.alloc _ _) fun _ hb => ZQ hb, _, rfl, ⟨⟨by rw [Zz he], .inr ⟨w.heap.size, len, (flat vs).toArray, by rw [hl], Nat.zero_le _, heap_alloc_new w _, by rw [hl]; exact Nat.le_refl _, by unfold maxLen; omega, by rw [hf, List.size_toArray, Zz he, hl], by rw [hf, List.toList_toArray, List.take_of_length_le (by rw [Zz he]; exact Nat.le_refl _)]⟩⟩, ?_⟩⟩⟩
 ·simp only [execOp]
  simp only [Sem.run_bind, Sem.run_pure]
  have : (Array.map (fun x : Nat × Operand => match x with | (i, x) => (i, ev fr x)) parts) = parts.map fun (x : Nat × Operand) => (x.1, ev fr x.2) := rfl
  rw [this, hr]
  rfl
 ·intro g hg
  simp [Value.ownBlock] at hg
  subst hg
  exact Z6 (Nat.le_refl _)
theorem ZJ {len : Nat} {news : List α} : StableC kc (fun v w c => ∃ a, v = .slice a len len ∧ postOwn enc s e kc news v w c) :=
 fun v w c w' c' q hq hx ⟨a, h1, h2⟩ => ⟨a, h1, Zc v w c w' c' q hq hx h2⟩
theorem Box.blk {w w' : World} {b : Nat} {T : TypeId} {cs : List Value} (h : Box w b T cs) (hb : w'.heap[b]? = w.heap[b]?) : Box w' b T cs := hb.trans h
theorem Own.blk {α : Type} {enc : α → List Value} {k : Nat} {e : TypeId} {D D' : Nat → Prop} {w w' : World} {v : Value} {l : List α} (h : Own enc k e D w v l) (hb : ∀ g, g < w.heap.size → v.ownBlock = some g → w'.heap[g]? = w.heap[g]?) (hD : ∀ g, g < w.heap.size → v.ownBlock = some g → D' g) : Own enc k e D' w' v l := by
 refine ⟨⟨h.row.1, ?_⟩, fun g hg => hD g (h.lt g hg) hg⟩
 rcases h.row.2 with h' | ⟨g, cap, cur, h1, h2, h3, h4⟩
 ·exact .inl h'
 ·exact .inr ⟨g, cap, cur, h1, h2, by rw [hb g (Array.getElem?_eq_some_iff.1 h3).1 (by rw [h1]; rfl)]; exact h3, h4⟩
def postAt (b kc : Nat) (T : TypeId) (cs : List Value) : PostC := fun _ w c => Box w b T cs ∧ c b = kc
theorem JS {b : Nat} {T : TypeId} {cs : List Value} : StableC kc (postAt b kc T cs) := by
 intro v w c w' c' q hq hx ⟨h1, h2⟩
 refine ⟨h1.keep hx.bel fun hd => ?_, (hx.col b h1.lt).trans h2⟩
 rcases hq with h | h
 ·exact hd.1 h
 ·exact h (hd.2.symm.trans h2)
theorem OpC_store {U T : TypeId} {x y : Operand} {b off m : Nat} {cs : List Value} {v : Value} (h0 : kc ≠ 0)
  (hs : ∀ w, (sizeOf U).run P w = .ok m w) (hx : ev fr x = .pointer (some ⟨b, off, none⟩)) (hy : ev fr y = v) (hb : Box w b T cs) (hc : c b = kc) (hv : v.cells.toList.length = m) (h1 : oneL v.cells.toList = true) (hle : Nat.ble (off + v.cells.toList.length) cs.length = true) :
  OpC β kc P ops ⟨none, .store U x y, ty, pos, after, none⟩ fr w c (postAt b kc T (splice cs off v.cells.toList)) := by
 have hst := run_storeCells_at (P := P) b off T v.cells.toList 0 cs.toArray w hb (by simpa using hle) (oneL.mem h1)
 simp only [Nat.add_zero] at hst
 have hsz : v.cells.size = m := by rw [← Array.length_toList]; exact hv
 refine .inl ⟨rfl, .inl ⟨lkV _ fr, w.setRow b (cs.toArray.toList.take off ++ v.cells.toList ++ cs.toArray.toList.drop (off + v.cells.toList.length)).toArray, c, .inr ⟨?_, rfl⟩, ⟨⟨rfl, rfl, rfl, by simp, fun j _ hj => setRow_other w b j _ (fun e => hj ⟨h0, by subst e; exact hc⟩), fun _ => Nat.le_refl _⟩, fun _ _ => rfl⟩, setRow_heap w b cs.toArray _ T _ hb, hc⟩⟩
 simp only [execOp, hx, hy, Instr.storeAt, Instr.sureAddr, storeVar, Sem.run_bind, Sem.run_pure, Result.andThen_ok, hs]
 simp [hsz, hst]
theorem OpC_storeW {U T : TypeId} {x y : Operand} {b m : Nat} {cs : List Value} {v : Value} (h0 : kc ≠ 0)
  (hs : ∀ w, (sizeOf U).run P w = .ok m w) (hx : ev fr x = .pointer (some ⟨b, 0, none⟩)) (hy : ev fr y = v) (hb : Box w b T cs) (hc : c b = kc) (hv : v.cells.toList.length = m) (h1 : oneL v.cells.toList = true) (hle : v.cells.toList.length = cs.length) :
  OpC β kc P ops ⟨none, .store U x y, ty, pos, after, none⟩ fr w c (postAt b kc T v.cells.toList) := by
 have h := OpC_store (β := β) (ops := ops) (ty := ty) (pos := pos) (after := after) h0 hs hx hy hb hc hv h1 (by rw [hle]; simp)
 have e2 : splice cs 0 v.cells.toList = v.cells.toList := by
  unfold splice
  rw [List.take_zero, List.nil_append, Nat.zero_add, List.drop_of_length_le (by rw [hle]; exact Nat.le_refl _), List.append_nil]
 rwa [e2] at h
end
end
