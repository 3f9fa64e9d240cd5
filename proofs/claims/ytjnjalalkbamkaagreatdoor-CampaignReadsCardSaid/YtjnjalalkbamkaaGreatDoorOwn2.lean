/- Several texts in one file. -/
import Derived.Test.YtjnjalalkbamkaaGreatDoorOwn
import Derived.Laws.OwnMore
import Derived.Lib.AppendZerosOnto
import Derived.Lib.Overlaps
import Derived.Laws.Tables
set_option linter.unusedSimpArgs false
set_option linter.unusedVariables false
set_option linter.unnecessarySimpa false
/- Own slices that are cut from the front and cleared. Nothing of a program stands here. -/
namespace Go.Lx
open Go Go.RowKit
section
variable {rd : Option Nat} {P : Program} {n : Nat} {K : Fr → World → Prop} {fr : Fr} {w : World} {α : Type} {enc : α → List Value} {k by_ : Nat} {D : Nat → Prop} {z : Value} {T e : TypeId} {l : List α} {a : Option Addr} {c m : Nat}
theorem o_subN {d : Option Nat} {t : TypeId} {ps : String} {af : Array Edge} {g : Option (Nat × Bool)} {x y : Operand} {U : TypeId} {p b : Nat} (hx : ev fr x = .int .i64 (p : Int)) (hy : ev fr y = .int .i64 (b : Int)) (h : b ≤ p) (hp : (p : Int) ≤ 9223372036854775807) :
  xop P fr w ⟨d, .binOp .sub T x y U, t, ps, af, g⟩ = .ok (.value (.int .i64 ((p - b : Nat) : Int))) w := by
 rw [o_sub hx hy (by unfold I64; omega), Int.ofNat_sub h]
theorem o_sfromO {d : Option Nat} {t : TypeId} {ps : String} {af : Array Edge} {g : Option (Nat × Bool)} {x y : Operand} {s j : Nat} (hP : P.underlying T = some (.slice e)) (hs : ∀ w, (sizeOf e).run P w = .ok s w) (hx : ev fr x = .slice a m c) (hj : ev fr y = .int .i64 (j : Int)) (hl : j ≤ m) (hc : j < c) :
  xop P fr w ⟨d, .slice T x (some y) none none, t, ps, af, g⟩ = .ok (.value (.slice (elp a (j * s)) (m - j) (c - j))) w := by
 have h2 : (j : Int) ≤ m := by omega
 have h3 : ¬ c = j := by omega
 simp [xop, execOp, hx, hj, Instr.slice, Instr.sliceAt, Instr.sliceBounds, Instr.sliceBound, asIntOf, run_underlying hP, hl, hs, elp, h3]
theorem o_iaO2 {d : Option Nat} {t : TypeId} {ps : String} {af : Array Edge} {g : Option (Nat × Bool)} {x y : Operand} {s i j m' c' : Nat} {K : IntKind} (hP : P.underlying T = some (.slice e)) (hs : ∀ w, (sizeOf e).run P w = .ok s w) (ho : Own enc k e D w (.slice a m c) l)
  (hx : ev fr x = .slice (elp a (j * s)) m' c') (hy : ev fr y = .int K (i : Int)) (hi : i < m') (hm : j + i < m) : xop P fr w ⟨d, .indexAddr T x y, t, ps, af, g⟩ = .ok (.value (.pointer (elp a ((j + i) * s)))) w := by
 rcases ho.row.2 with ⟨h1, h2⟩ | ⟨g', cap, cur, h1, _⟩
 ·simp at h1; omega
 ·simp at h1
  obtain ⟨rfl, _⟩ := h1
  rw [elp_some] at hx ⊢
  have := o_ia (d := d) (t := t) (ps := ps) (af := af) (g := g) (w := w) hP hs hx hy hi
  rw [this, show 0 + j * s + i * s = 0 + (j + i) * s from by rw [Nat.add_mul]; omega]
theorem Own.cutTo {x l r : List α} {j : Nat} (he : EncOk enc k) (h : Own enc k e D w (.slice a m c) ((x ++ l).take j ++ r)) (hx : x.length = j) : Own enc k e D w (.slice a j c) x := by
 subst hx
 rw [List.take_left'  rfl] at h
 have := h.cut he (j := x.length) (by simp)
 rwa [List.take_left' rfl] at this
theorem Rg_clear {ops : Array Oper} {rest : List Oper} {ty : TypeId} {pos : String} {af : Array Edge} {x : Operand} {j n' c' : Nat} (x0 : α)
  (he : EncOk enc k) (ht : ElT P T e k by_ z) (hz : z.cells.toList = enc x0) (hx : ev fr x = .slice (elp a (j * k)) n' c') (ho : Own enc k e D w (.slice a m c) l) (hn : n' = l.length - j) (hj : j < l.length)
  (hk : ∀ w', Bel True D w w' → Own enc k e D w' (.slice a m c) (l.take j ++ List.replicate n' x0) → Rg rd P n ops rest K fr w') :
  Rg rd P n ops (⟨none, .call { callee := .builtin .clear, args := #[x], argTypes := #[T] }, ty, pos, af, none⟩ :: rest) K fr w := by
 obtain ⟨i, hi, hzz, hs, hby⟩ := ht.inf
 rcases ho.row.2 with ⟨h1, h2⟩ | ⟨g, cap, cur, h1, h2, h3, h4, h5, h6, h7⟩
 ·omega
 ·have hsl : a = some ⟨g, 0, none⟩ ∧ m = l.length ∧ c = cap := by simp at h1; exact h1
  obtain ⟨rfl, rfl, rfl⟩ := hsl
  rw [elp_some, Nat.zero_add] at hx
  have hzs : z.cells.size = k := by rw [← Array.length_toList, hz, he.len]
  have hvs : (Builtin.zeroCells z.cells n').toList = (List.replicate n' x0).flatMap enc := by
   rw [← madeCells_rep he hz]
   unfold Builtin.zeroCells madeCells
   rw [hzs]
  have hvl : (Builtin.zeroCells z.cells n').toList.length = n' * k := by rw [hvs, fm_len he]; simp
  have hlk : l.length * k ≤ cur.size := by rw [h6]; exact Nat.mul_le_mul_right _ h4
  have hjn : j * k + n' * k = l.length * k := by rw [← Nat.add_mul]; congr 1; omega
  have hst := run_storeCells_at (P := P) g (j * k) e (Builtin.zeroCells z.cells n').toList 0 cur w h3 (by rw [hvl]; omega) (by rw [hvs]; exact fm_one he _)
  simp only [Nat.add_zero, hvl] at hst
  have hzv : (zeroValue e).run P w = .ok z w := by simp [zeroValue, typeInfo, hi, hzz]
  obtain ⟨n1, rfl⟩ : ∃ n1, n' = n1 + 1 := ⟨n' - 1, by omega⟩
  refine QC (v := .tuple #[]) rfl (w' := w.setRow g (cur.toList.take (j * k) ++ (Builtin.zeroCells z.cells (n1 + 1)).toList ++ cur.toList.drop (j * k + (n1 + 1) * k)).toArray) ?_ (hk _ ?_ ?_)
  ·simp [execOp, resolve, invoke, builtin, hx, Builtin.clear_, run_underlying ht.sl, hzv, hst]
  ·exact ⟨rfl, rfl, rfl, by simp, fun q _ hq => setRow_other w g q _ (fun e => hq (by subst e; exact ho.loc _ rfl)), fun _ => Nat.le_refl _⟩
  ·have hcl : (cur.toList.take (j * k) ++ (Builtin.zeroCells z.cells (n1 + 1)).toList ++ cur.toList.drop (j * k + (n1 + 1) * k)).length = cur.size := by
    simp only [List.length_append, hvl, List.length_take, List.length_drop, Array.length_toList]; omega
   have hll : (l.take j ++ List.replicate (n1 + 1) x0).length = l.length := by simp [List.length_take]; omega
   refine ⟨⟨by rw [fm_len he], .inr ⟨g, c, _, by simp; omega, h2, setRow_heap w g cur _ e _ h3, by rw [hll]; exact h4, h5, by rw [List.size_toArray, hcl, h6], ?_⟩⟩, ho.loc⟩
   rw [hll, List.toList_toArray, List.flatMap_append, ← hvs, fm_take he]
   have t1 : cur.toList.take (j * k) = (l.flatMap enc).take (j * k) := by rw [← h7, List.take_take]; congr 1; omega
   have hA : ((l.flatMap enc).take (j * k) ++ (Builtin.zeroCells z.cells (n1 + 1)).toList).length = l.length * k := by
    rw [List.length_append, hvl, List.length_take, fm_len he]; omega
   rw [t1, List.take_append, hA, List.take_of_length_le (by rw [hA]; exact Nat.le_refl _)]
   simp
end
end Go.Lx
/- Own slices written inside: copy to a place, append that stays in place, append of zeros, the library's overlaps. Nothing of a program stands here. -/
namespace Go.Lx
open Go Go.RowKit
section
variable {rd : Option Nat} {P : Program} {n : Nat} {K : Fr → World → Prop} {fr : Fr} {w : World} {α : Type} {enc : α → List Value} {k by_ : Nat} {D : Nat → Prop} {z : Value} {T e : TypeId} {l : List α} {a : Option Addr} {c m : Nat}
def putL (l : List α) (o : Nat) (vs : List α) : List α := l.take o ++ vs ++ l.drop (o + vs.length)
theorem putL_len {o : Nat} {vs : List α} (h : o ≤ l.length) : (putL l o vs).length = max l.length (o + vs.length) := by
 unfold putL
 simp; omega
theorem putL_nil {o : Nat} (h : o ≤ l.length) : putL l o [] = l := by simp [putL]
theorem Own.write {g o m2 : Nat} {cur : Array Value} {vs : List α} (he : EncOk enc k) (ho : Own enc k e D w (.slice (some ⟨g, 0, none⟩) m c) l) (hg : w.heap[g]? = some (.cells cur e (0, 0)))
  (h1 : o ≤ l.length) (h2 : o + vs.length ≤ c) (hm2 : m2 = max l.length (o + vs.length)) :
  Own enc k e D (w.setRow g (cur.toList.take (o * k) ++ vs.flatMap enc ++ cur.toList.drop (o * k + (vs.flatMap enc).length)).toArray) (.slice (some ⟨g, 0, none⟩) m2 c) (putL l o vs) ∧ o * k + (vs.flatMap enc).length ≤ cur.size := by
 rcases ho.row.2 with ⟨h, _⟩ | ⟨g', cap, cur', h, hb, h3, h4, h5, h6, h7⟩
 ·simp at h
 ·simp only [Value.slice.injEq, Option.some.injEq, Addr.mk.injEq, and_true, true_and] at h
  obtain ⟨rfl, rfl, rfl⟩ := h
  rw [hg] at h3
  simp only [Option.some.injEq, Obj.cells.injEq, and_true, true_and] at h3
  subst h3
  have hlen := putL_len (vs := vs) h1
  have hvl : (vs.flatMap enc).length = vs.length * k := fm_len he vs
  have hle : o * k + vs.length * k ≤ c * k := by rw [← Nat.add_mul]; exact Nat.mul_le_mul_right _ h2
  have hok : o * k ≤ l.length * k := Nat.mul_le_mul_right _ h1
  have hlc : l.length * k ≤ c * k := Nat.mul_le_mul_right _ h4
  have hcl : (cur.toList.take (o * k) ++ vs.flatMap enc ++ cur.toList.drop (o * k + (vs.flatMap enc).length)).length = cur.size := by
   simp only [List.length_append, hvl, List.length_take, List.length_drop, Array.length_toList]; omega
  refine ⟨⟨⟨by rw [fm_len he], .inr ⟨g, c, _, by rw [hlen, ← hm2], hb, setRow_heap w g cur _ e _ hg, by rw [hlen]; omega, h5, by rw [List.size_toArray, hcl, h6], ?_⟩⟩, ho.loc⟩, by omega⟩
  rw [hlen, List.toList_toArray]
  have t1 : cur.toList.take (o * k) = (l.take o).flatMap enc := by rw [fm_take he, ← h7, List.take_take]; congr 1; omega
  have hA : (cur.toList.take (o * k) ++ vs.flatMap enc).length = (o + vs.length) * k := by
   rw [List.length_append, hvl, List.length_take, Array.length_toList, Nat.add_mul]; omega
  unfold putL
  rw [List.flatMap_append, List.flatMap_append, ← t1]
  rcases Nat.le_total l.length (o + vs.length) with hx | hx
  ·rw [Nat.max_eq_right hx, List.drop_of_length_le hx, List.flatMap_nil, List.append_nil, List.take_append, List.take_of_length_le (by rw [hA]; exact Nat.le_refl _), hA, Nat.sub_self, List.take_zero, List.append_nil]
  ·have hxk : (o + vs.length) * k ≤ l.length * k := Nat.mul_le_mul_right _ hx
   rw [Nat.max_eq_left hx, fm_drop he, ← h7, List.drop_take, List.take_append, hA, List.take_of_length_le (by rw [hA]; exact hxk), hvl, ← Nat.add_mul]
theorem Own.row0 {g : Nat} (ho : Own enc k e D w (.slice (some ⟨g, 0, none⟩) m c) l) : ∃ cur : Array Value, w.heap[g]? = some (.cells cur e (0, 0)) ∧ m = l.length ∧ l.length ≤ c ∧ c ≤ maxLen ∧ cur.size = c * k := by
 rcases ho.row.2 with ⟨h, _⟩ | ⟨g', cap, cur', h, hb, h3, h4, h5, h6, h7⟩
 ·simp at h
 ·simp only [Value.slice.injEq, Option.some.injEq, Addr.mk.injEq, and_true, true_and] at h
  obtain ⟨rfl, rfl, rfl⟩ := h
  exact ⟨cur', h3, rfl, h4, h5, h6⟩
theorem Own.sm {v : Value} (ho : Own enc k e D w v l) (hne : l ≠ []) : ∃ g c, v = .slice (some ⟨g, 0, none⟩) l.length c := by
 rcases ho.row.2 with ⟨_, h⟩ | ⟨g', cap, cur', h, _⟩
 ·exact absurd (List.eq_nil_of_length_eq_zero h) hne
 ·exact ⟨g', cap, h⟩
theorem Bel.setRow1 {g : Nat} {cs : Array Value} (h : D g) : Bel True D w (w.setRow g cs) := ⟨rfl, rfl, rfl, by simp, fun q _ hq => setRow_other w g q _ (fun e => hq (by subst e; exact h)), fun _ => Nat.le_refl _⟩
theorem Rg_cpy {ops : Array Oper} {rest : List Oper} {d : Option Nat} {ty : TypeId} {pos : String} {af : Array Edge} {x y : Operand} {o m2 dLen dCap sLen sCap c' : Nat} {a' : Option Addr} {F : Nat → Prop} (vs : List α) (hd : dstOk n d = true)
  (he : EncOk enc k) (ht : ElT P T e k by_ z) (hx : ev fr x = .slice (if c = o then a else elp a (o * k)) dLen dCap) (hy : ev fr y = .slice a' sLen sCap) (ho : Own enc k e D w (.slice a m c) l) (hs : Sl enc k F w a' c' vs)
  (hmin : min sLen dLen = vs.length) (h1 : o ≤ l.length) (h2 : o + vs.length ≤ c) (hm2 : m2 = max l.length (o + vs.length))
  (hk : ∀ w', Bel True D w w' → Own enc k e D w' (.slice a m2 c) (putL l o vs) → Rg rd P n ops rest K (fr.put d (.int .i64 (vs.length : Int))) w') :
  Rg rd P n ops (⟨d, .call { callee := .builtin .copy, args := #[x, y], argTypes := #[T, T] }, ty, pos, af, none⟩ :: rest) K fr w := by
 obtain ⟨i, hi, hzz, hsz, hby⟩ := ht.inf
 have hmin' : Nat.min sLen dLen = vs.length := hmin
 by_cases h0 : vs = []
 ·subst h0
  have hml : m = l.length := by
   rcases ho.row.2 with ⟨h, h3⟩ | ⟨g', cap, cur', h, _⟩
   ·simp at h; omega
   ·simp at h; exact h.2.1
  have hm3 : m2 = m := by simp at hm2; omega
  subst hm3
  refine QC hd (v := .int .i64 0) (w' := w) ?_ (hk _ (Bel.refl _ _) (by rw [putL_nil h1]; exact ho))
  have hf : ∀ v : Option Addr, (Builtin.firstCells k 0 (.slice v sLen sCap)).run P w = .ok #[] w := fun v => by
   cases v with
   | none => exact run_firstCells_none w k 0 sLen sCap
   | some ad => exact run_firstCells_some w k 0 ad sLen sCap [] (by simp) (by simp)
  have hr : (Builtin.copy_ #[T, T] ty #[.slice (if c = o then a else elp a (o * k)) dLen dCap, .slice a' sLen sCap]).run P w = .ok (goInt 0) w := by
   have hmin0 : Nat.min sLen dLen = 0 := hmin'
   cases hb : (if c = o then a else elp a (o * k)) with
   | none => simp [Builtin.copy_, run_underlying ht.sl, Builtin.lenOf, hmin0, sizeOf, typeInfo, hi, hsz, hf]
   | some ad => simp [Builtin.copy_, run_underlying ht.sl, Builtin.lenOf, hmin0, sizeOf, typeInfo, hi, hsz, hf, storeCells]
  simp [execOp, resolve, invoke, builtin, hx, hy, hr, goInt]
 ·have hpos : 0 < vs.length := by cases vs with
   | nil => exact absurd rfl h0
   | cons _ _ => simp
  rw [if_neg (by omega)] at hx
  obtain ⟨b, off, rfl, _, hat⟩ := hs.cells he h0
  cases a with
  | none =>
   exfalso
   rcases ho.row.2 with ⟨h, _⟩ | ⟨g', cap, cur', h, _⟩
   ·simp at h; omega
   ·simp at h
  | some ad =>
   obtain ⟨g, rfl⟩ : ∃ g, ad = ⟨g, 0, none⟩ := by
    rcases ho.row.2 with ⟨h, _⟩ | ⟨g', cap, cur', h, _⟩
    ·simp at h
    ·simp at h; exact ⟨g', h.1⟩
   obtain ⟨cur, hg, hml, _, _, _⟩ := ho.row0
   obtain ⟨ho', hfit⟩ := ho.write he hg h1 h2 hm2
   have hcl : (vs.flatMap enc).length = vs.length * k := fm_len he vs
   have hsrc : ∀ j v, (vs.flatMap enc)[j]? = some v → w.cell? ((⟨b, off, none⟩ : Addr).add j) = some v := by
    intro j v hj
    have := hat j v hj
    unfold Addr.add
    by_cases hz : j = 0
    ·subst hz; simpa using this
    ·rw [if_neg hz]; exact this
   have hl := run_firstCells_some (P := P) w k vs.length ⟨b, off, none⟩ sLen sCap (vs.flatMap enc) hcl hsrc
   have hst := run_storeCells_at (P := P) g (o * k) e (vs.flatMap enc) 0 cur w hg (by simpa using hfit) (fm_one he _)
   simp only [Nat.add_zero] at hst
   rw [elp_some, Nat.zero_add] at hx
   have hr : (Builtin.copy_ #[T, T] ty #[.slice (some ⟨g, o * k, none⟩) dLen dCap, .slice (some ⟨b, off, none⟩) sLen sCap]).run P w = .ok (goInt vs.length) (w.setRow g (cur.toList.take (o * k) ++ vs.flatMap enc ++ cur.toList.drop (o * k + (vs.flatMap enc).length)).toArray) := by
    simp [Builtin.copy_, run_underlying ht.sl, Builtin.lenOf, hmin', sizeOf, typeInfo, hi, hsz, hl, hst]
   refine QC hd (v := .int .i64 (vs.length : Int)) ?_ (hk _ (Bel.setRow1 (ho.loc g rfl)) ho')
   simp [execOp, resolve, invoke, builtin, hx, hy, hr, goInt]
theorem Rg_elstF {ops : Array Oper} {rest : List Oper} {d : Option Nat} {ty : TypeId} {pos : String} {af : Array Edge} {U : TypeId} {x y : Operand} {v : Value} {i j s : Nat} (u old : α)
  (hd : dstOk n d = true) (he : EncOk enc k) (hs : ∀ w, (sizeOf U).run P w = .ok s w) (hx : ev fr x = .pointer (elp a (i * k + j))) (hy : ev fr y = v) (hv : v.cells.toList.length = s) (h1 : oneL v.cells.toList = true) (ho : Own enc k e D w (.slice a m c) l) (hi : l[i]? = some old) (hu : enc u = (enc old).take j ++ v.cells.toList ++ (enc old).drop (j + s)) (hj : j + s ≤ k)
  (hk : ∀ w', Bel True D w w' → Own enc k e D w' (.slice a m c) (l.set i u) → Rg rd P n ops rest K (fr.put d undef) w') :
  Rg rd P n ops (⟨d, .store U x y, ty, pos, af, none⟩ :: rest) K fr w := by
 have hil : i < l.length := (List.getElem?_eq_some_iff.1 hi).1
 obtain ⟨g, c2, hsm⟩ := ho.sm (by rintro rfl; simp at hil)
 simp only [Value.slice.injEq] at hsm
 obtain ⟨rfl, rfl, rfl⟩ := hsm
 obtain ⟨cur, hg, _, hlc, _, hcs⟩ := ho.row0
 have hw := ho.write (vs := [u]) (m2 := l.length) he hg (Nat.le_of_lt hil) (by simp; omega) (by simp; omega)
 have hput : putL l i [u] = l.set i u := by
  rw [List.set_eq_take_append_cons_drop, if_pos hil]
  unfold putL
  rw [List.append_assoc]; rfl
 rw [hput] at hw
 obtain ⟨ho', _⟩ := hw
 have hfl : ([u] : List α).flatMap enc = enc u := by simp
 rw [hfl] at ho'
 have hlk : i * k + k ≤ cur.size := by
  rw [hcs, ← Nat.succ_mul]; exact Nat.mul_le_mul_right _ (by omega)
 have hcell : ∀ q, q < k → cur.toList[i * k + q]? = (enc old)[q]? := by
  intro q hq
  rcases ho.row.2 with ⟨h, _⟩ | ⟨g', cap, cur', h, hb, h3, h4, h5, h6, h7⟩
  ·simp at h
  ·simp only [Value.slice.injEq, Option.some.injEq, Addr.mk.injEq, and_true, true_and] at h
   obtain ⟨rfl, rfl⟩ := h
   rw [hg] at h3
   simp only [Option.some.injEq, Obj.cells.injEq, and_true, true_and] at h3
   subst h3
   have := fm_get he hi q hq
   rw [← this, ← h7, List.getElem?_take, if_pos]
   have : i * k + k ≤ l.length * k := by rw [← Nat.succ_mul]; exact Nat.mul_le_mul_right _ hil
   omega
 have hsplit : cur.toList.take (i * k + j) ++ v.cells.toList ++ cur.toList.drop (i * k + j + s) = cur.toList.take (i * k) ++ enc u ++ cur.toList.drop (i * k + k) := by
  have hseg : ∀ p q, p + q ≤ k → (cur.toList.drop (i * k + p)).take q = ((enc old).drop p).take q := by
   intro p q hpq
   apply List.ext_getElem?
   intro r
   rw [List.getElem?_take, List.getElem?_take]
   by_cases hr : r < q
   ·rw [if_pos hr, if_pos hr, List.getElem?_drop, List.getElem?_drop, Nat.add_assoc, hcell _ (by omega)]
   ·rw [if_neg hr, if_neg hr]
  have e1 : cur.toList.take (i * k + j) = cur.toList.take (i * k) ++ (enc old).take j := by
   rw [List.take_add]
   congr 1
   have := hseg 0 j (by omega)
   simpa using this
  have e2 : cur.toList.drop (i * k + j + s) = (enc old).drop (j + s) ++ cur.toList.drop (i * k + k) := by
   have h9 := hseg (j + s) (k - (j + s)) (by omega)
   have hl9 : ((enc old).drop (j + s)).take (k - (j + s)) = (enc old).drop (j + s) := List.take_of_length_le (by rw [List.length_drop, he.len]; exact Nat.le_refl _)
   rw [hl9] at h9
   rw [← h9, Nat.add_assoc]
   have h8 := List.take_append_drop (k - (j + s)) (cur.toList.drop (i * k + (j + s)))
   rw [List.drop_drop] at h8
   rw [show i * k + (j + s) + (k - (j + s)) = i * k + k by omega] at h8
   exact h8.symm
  rw [e1, e2, hu]
  simp [List.append_assoc]
 have hst := run_storeCells_at (P := P) g (i * k + j) e v.cells.toList 0 cur w hg (by rw [hv]; omega) (oneL.mem h1)
 simp only [Nat.add_zero, hv] at hst
 rw [hsplit] at hst
 have hel : (enc u).length = k := he.len u
 rw [hel] at ho'
 have hsz : v.cells.size = s := by rw [← Array.length_toList]; exact hv
 rw [elp_some, Nat.zero_add] at hx
 refine Rg_skip hd ?_ (hk _ (Bel.setRow1 (ho.loc g rfl)) ho')
 simp [execOp, hx, hy, Instr.storeAt, Instr.sureAddr, storeVar, hs, hsz, hst]
theorem Rg_appz {ops : Array Oper} {rest : List Oper} {d : Option Nat} {ty TI : TypeId} {pos : String} {af : Array Edge} {x y : Operand} {i q : Nat} {KI : IntKind} (x0 : α) (hd : dstOk n d = true)
  (he : EncOk enc k) (ht : ElT P T e k by_ z) (hz : z.cells.toList = enc x0) (hTI : P.underlying TI = some (.int KI)) (hx : ev fr x = .slice a i c) (hy : ev fr y = .int .i64 (q : Int)) (ho : Own enc k e D w (.slice a i c) l)
  (hq : 0 < q) (hg : c < i + q) (hb : (i + q) * by_ ≤ 140737488355328)
  (hk : ∀ g c2 w', Ext False w w' → w.heap.size ≤ g → Own enc k e (fun b => b = g) w' (.slice (some ⟨g, 0, none⟩) (i + q) c2) (l ++ List.replicate q x0) → Rg rd P n ops rest K (fr.put d (.slice (some ⟨g, 0, none⟩) (i + q) c2)) w') :
  Rg rd P n ops (⟨d, .call { callee := .builtin .append, args := #[x, y], argTypes := #[T, TI] }, ty, pos, af, none⟩ :: rest) K fr w := by
 obtain ⟨ti, hi, hzz, hsz, hby⟩ := ht.inf
 have hil : i = l.length := by
  rcases ho.row.2 with ⟨h, h3⟩ | ⟨g', cap, cur', h, _⟩
  ·simp at h; omega
  ·simp at h; exact h.2.1
 subst hil
 have hbp := ht.bp
 have hcap : l.length + q ≤ 140737488355328 := Nat.le_trans (Nat.le_mul_of_pos_right _ hbp) hb
 have hqb : q * by_ ≤ 140737488355328 := Nat.le_trans (Nat.mul_le_mul_right _ (by omega)) hb
 have hzs : z.cells.size = k := ht.zs
 have hvs : (Builtin.zeroCells z.cells q).toList = (List.replicate q x0).flatMap enc := by
  rw [← madeCells_rep he hz]
  unfold Builtin.zeroCells madeCells
  rw [hzs]
 have hold : (Builtin.firstCells ti.size l.length (.slice a l.length c)).run P w.drew = .ok (l.flatMap enc).toArray w.drew := by
  rw [hsz]
  cases a with
  | none =>
   have hl0 : l = [] := by
    rcases ho.row.2 with ⟨h, h3⟩ | ⟨g', cap, cur', h, _⟩
    ·exact List.eq_nil_of_length_eq_zero h3
    ·simp at h
   subst hl0
   exact run_firstCells_none w.drew k 0 0 c
  | some ad =>
   refine run_firstCells_some w.drew k l.length ad l.length c (l.flatMap enc) (fm_len he l) ?_
   intro j u hj
   obtain ⟨g, rfl⟩ : ∃ g, ad = ⟨g, 0, none⟩ := by
    rcases ho.row.2 with ⟨h, _⟩ | ⟨g', cap, cur', h, _⟩
    ·simp at h
    ·simp at h; exact ⟨g', h.1⟩
   have := ho.row.cells (g := g) rfl j u hj
   simpa using this
 have hr := Lib.run_append_grow_zeros (P := P) w T TI ty e ti z .i64 KI ht.sl hTI hi hzz a l.length c (l.flatMap enc) hold q hq (by rw [hsz]; exact ht.pos) hg (by omega) (by rw [hby]; omega) (by rw [hby]; exact growslice_fits hg hb)
 refine QC hd ?_ (hk w.heap.size _ _ ?_ (Nat.le_refl _) ?_) (v := .slice (some ⟨w.heap.size, 0, none⟩) (l.length + q) (grownCap w (l.length + q) c e)) (w' := w.drew.alloc (.cells ((l.flatMap enc).toArray ++ Builtin.zeroCells z.cells q ++ Builtin.zeroCells z.cells (grownCap w (l.length + q) c e - (l.length + q))) e))
 ·simp [execOp, resolve, invoke, builtin, hx, hy, hr]
 ·exact ⟨rfl, rfl, rfl, by simp, fun b hb _ => heap_alloc_old w.drew _ hb, False.elim⟩
 ·have hge := grownCap_ge w (l.length + q) c e
  have hcm : grownCap w (l.length + q) c e ≤ maxLen := grownCap_le_maxLen w (l.length + q) c e (by unfold maxLen; omega)
  have hll : (l ++ List.replicate q x0).length = l.length + q := by simp
  refine ⟨⟨by rw [fm_len he], .inr ⟨w.heap.size, grownCap w (l.length + q) c e, _, by rw [hll], Nat.zero_le _, heap_alloc_new w.drew _, by rw [hll]; exact hge, hcm, ?_, ?_⟩⟩, fun g hg2 => by simp [Value.ownBlock] at hg2; exact hg2.symm⟩
  ·simp only [Array.size_append, List.size_toArray, size_zeroCells, hzs, fm_len he, ← Nat.add_mul]
   congr 1
   omega
  ·have hA : (l.flatMap enc ++ (Builtin.zeroCells z.cells q).toList).length = (l.length + q) * k := by
    rw [hvs, ← List.flatMap_append, fm_len he, hll]
   rw [hll, Array.toList_append, Array.toList_append, List.take_append, List.take_of_length_le (by rw [hA]; exact Nat.le_refl _), hA, Nat.sub_self, List.take_zero, List.append_nil, hvs, List.flatMap_append]
end
section
variable {P : Program} {fr : Fr} {w : World} {d : Option Nat} {t : TypeId} {ps : String} {af : Array Edge} {g : Option (Nat × Bool)} {T e : TypeId} {x y z u : Operand} {a : Option Addr} {n c s i j m : Nat}
theorem o_cap (hP : P.underlying T = some (.slice e)) (hx : ev fr x = .slice a n c) : xop P fr w ⟨d, .call { callee := .builtin .cap, args := #[x], argTypes := #[T] }, t, ps, af, g⟩ = .ok (.value (.int .i64 (c : Int))) w := by
 simp [xop, execOp, resolve, invoke, builtin, hx, Builtin.cap_, run_underlying hP, goInt]
theorem o_sfromG {gb : Nat} (hP : P.underlying T = some (.slice e)) (hs : ∀ w, (sizeOf e).run P w = .ok s w) (hx : ev fr x = .slice (some ⟨gb, 0, none⟩) n c) (hj : ev fr y = .int .i64 (j : Int)) (hl : j ≤ n) (hc : j < c) :
  xop P fr w ⟨d, .slice T x (some y) none none, t, ps, af, g⟩ = .ok (.value (.slice (some ⟨gb, j * s, none⟩) (n - j) (c - j))) w := by
 rw [o_sfromO hP hs hx hj hl hc, elp_some, Nat.zero_add]
theorem o_addN {U V : TypeId} {p b : Nat} (hx : ev fr x = .int .i64 (p : Int)) (hy : ev fr y = .int .i64 (b : Int)) (h : p + b ≤ 9223372036854775807) :
  xop P fr w ⟨d, .binOp .add V x y U, t, ps, af, g⟩ = .ok (.value (.int .i64 ((p + b : Nat) : Int))) w := by
 rw [Q6 hx hy (by unfold I64; omega)]; rfl
end
section
variable {α : Type} {l : List α} {i q : Nat} {x z : α}
theorem ins_grow (h : i ≤ l.length) (hq : q = l.length + 1 - i) : putL (putL (l.take i ++ List.replicate q z) i [x]) (i + 1) (l.drop i) = l.take i ++ [x] ++ l.drop i := by
 have hl : (l.take i).length = i := by rw [List.length_take]; omega
 have e1 : putL (l.take i ++ List.replicate q z) i [x] = (l.take i ++ [x]) ++ (List.replicate q z).drop 1 := by
  unfold putL
  rw [List.take_left' hl, List.length_singleton, List.drop_append, List.drop_of_length_le (by omega), List.nil_append, hl, show i + 1 - i = 1 by omega]
 rw [e1]
 unfold putL
 have hl2 : (l.take i ++ [x]).length = i + 1 := by simp [hl]
 have e2 : ((l.take i ++ [x]) ++ (List.replicate q z).drop 1).drop (i + 1 + (l.drop i).length) = [] := List.drop_of_length_le (by simp; omega)
 rw [List.take_left' hl2, e2, List.append_nil]
theorem ins_place (h : i < l.length) : putL (putL l (i + 1) (l.drop i)) i [x] = l.take i ++ [x] ++ l.drop i := by
 have hl2 : (l.take (i + 1)).length = i + 1 := by rw [List.length_take]; omega
 have e1 : putL l (i + 1) (l.drop i) = l.take (i + 1) ++ l.drop i := by
  unfold putL
  have e2 : l.drop (i + 1 + (l.drop i).length) = [] := List.drop_of_length_le (by simp; omega)
  rw [e2, List.append_nil]
 rw [e1]
 unfold putL
 rw [List.length_singleton, List.drop_left' hl2, List.take_append, hl2, show i - (i + 1) = 0 by omega, List.take_zero, List.append_nil, List.take_take, Nat.min_eq_left (by omega)]
end
section
theorem over_apart {α β : Type} {ea : α → List Value} {eb : β → List Value} {P : Program} {w : World} {tS tR e : TypeId} {k : Nat} {D F : Nat → Prop} {b : Option Addr} {g off m cb n c la ca : Nat} {xs : List β} {l : List α} (ht : P.underlying tS = some (.slice e)) (hz : ∀ w, (sizeOf e).run P w = .ok k w)
  (hx : Own eb k e F w (.slice b n cb) xs) (hne : xs ≠ []) (ho : Own ea k e D w (.slice (some ⟨g, 0, none⟩) m c) l) (hk : 0 < k) (hc : 0 < c) (hd : ∀ q, F q → D q → False) :
  (Extern.SlicesOverlaps.overlaps #[tS, tS] #[tR] #[.slice b n cb, .slice (some ⟨g, off, none⟩) la ca]).run P w = .ok (.bool false) w := by
 obtain ⟨gb, c2, hv⟩ := hx.sm hne
 simp only [Value.slice.injEq] at hv
 obtain ⟨rfl, rfl, rfl⟩ := hv
 obtain ⟨cur, hg, _, _, _, hcs⟩ := ho.row0
 obtain ⟨cub, hgb, _, hle, _, hcb⟩ := hx.row0
 have hpos : 0 < cb := by
  cases xs with
  | nil => exact absurd rfl hne
  | cons _ _ => simp at hle; omega
 have hfr : ∀ j, w.frozen? ⟨gb, j, none⟩ = false := fun j => frozen_of_row w gb j cub e hgb
 refine Lib.run_overlaps_apart w tS tR e ht k hz ⟨gb, 0, none⟩ ⟨g, off, none⟩ _ cb la ca (fun h => hd gb (hx.loc gb rfl) (by have h' : gb = g := h; rw [h']; exact ho.loc g rfl)) e e cub.size cur.size ?_ ?_ ?_ (hfr 0) (hfr _)
 ·simp [World.shape?, hgb]
 ·simp [World.shape?, hg]
 ·have := Nat.mul_pos hc hk; omega
end
end Go.Lx
/- Results of any number, also in cells; struct literals. Nothing of a program stands here. -/
namespace Go.Lx
open Go Go.RowKit
def RV (P : Program) (fr : Fr) (w : World) : ResultVar → Value → Prop
 | .tmp t, v => fr t = v
 | .cell a T, v => ∃ ad, fr a = .pointer (some ad) ∧ (loadVar T ad).run P w = .ok v w
def RVs (P : Program) (fr : Fr) (w : World) : List ResultVar → List Value → Prop
 | [], [] => True
 | r :: rs, v :: vs => RV P fr w r v ∧ RVs P fr w rs vs
 | _, _ => False
def tupV : List Value → Value
 | [v] => v
 | l => .tuple l.toArray
section
variable {P : Program} {fr : Fr} {w : World} {n : Nat} {fn : Func}
def resOf (tmps : Array Value) : ResultVar → Sem Value
 | .tmp t => pure (tmps.getD t undef)
 | .cell c t => do loadVar t (← asAddr (tmps.getD c undef))
theorem results_of (tmps : Array Value) : results fn tmps = (do let vs ← fn.results.mapM (resOf tmps); pure (if h : vs.size = 1 then vs[0] else .tuple vs)) := by
 unfold results
 congr 1
theorem run_rvs {a : Act} (ha : Is a n fr) : ∀ {rs : List ResultVar} {vs : List Value}, RVs P fr w rs vs → (rs.mapM (resOf a.tmps)).run P w = .ok vs w
 | [], [], _ => by simp
 | [], _ :: _, h => h.elim
 | _ :: _, [], h => h.elim
 | r :: rs, v :: vs, h => by
  have ih := run_rvs ha h.2
  have h1 := h.1
  rw [List.mapM_cons]
  cases r with
  | tmp t =>
   have e : a.tmps.getD t undef = v := by
    have h2 : fr t = v := h1
    rw [← h2, ← ha.fr]; rfl
   simp only [resOf, Sem.run_bind, Sem.run_pure, Result.andThen_ok, ih, e]
  | cell c t =>
   obtain ⟨ad, h2, h3⟩ := h1
   have e : a.tmps.getD c undef = .pointer (some ad) := by
    rw [← h2, ← ha.fr]; rfl
   simp only [resOf, Sem.run_bind, Sem.run_pure, Result.andThen_ok, ih, e, asAddr, h3]
theorem resL_run {rs : List ResultVar} {vs : List Value} (h : fn.results = rs.toArray) (hv : RVs P fr w rs vs) : ∀ a, Is a n fr → (results fn a.tmps).run P w = .ok (tupV vs) w := by
 intro a ha
 have e := run_rvs (P := P) (w := w) ha hv
 have e2 : (fn.results.mapM (resOf a.tmps)).run P w = .ok vs.toArray w := by
  rw [h, Array.mapM_eq_mapM_toList]
  simp [e]
 rw [results_of]
 simp only [Sem.run_bind, e2, Result.andThen_ok, Sem.run_pure]
 match vs with
 | [] => rfl
 | [v] => rfl
 | v :: v' :: r => simp [tupV]
theorem res_T {L : List Deferred} {rs : List ResultVar} {vs : List Value} (h : fn.results = rs.toArray) (hv : RVs P fr w rs vs) (hl : vs.length ≠ 1) (hd : fr.ds = L := by rfl) : Res L P fn n fr w (.tuple vs.toArray) := by
 refine ⟨hd, fun a ha => ?_⟩
 rw [resL_run h hv a ha]
 match vs with
 | [] => rfl
 | [v] => exact absurd rfl hl
 | v :: v' :: r => rfl
theorem res_1 {L : List Deferred} {r : ResultVar} {v : Value} (h : fn.results = #[r]) (hv : RV P fr w r v) (hd : fr.ds = L := by rfl) : Res L P fn n fr w v := ⟨hd, fun a ha => resL_run (rs := [r]) (vs := [v]) h ⟨hv, trivial⟩ a ha⟩
theorem rv_cellS {c : Tmp} {T : TypeId} {b off k : Nat} {cs : List Value} (ha : ∀ w, (isAgg T).run P w = .ok true w) (hs : ∀ w, (sizeOf T).run P w = .ok k w) (hx : fr c = .pointer (some ⟨b, off, none⟩)) (h : At w b off cs) (hn : cs.length = k) : RV P fr w (.cell c T) (.agg cs.toArray) :=
 ⟨_, hx, by simp [loadVar, ha, hs, run_loadAgg hn h]⟩
theorem rv_cell1 {c : Tmp} {T : TypeId} {b off : Nat} {v : Value} (ha : ∀ w, (isAgg T).run P w = .ok false w) (hx : fr c = .pointer (some ⟨b, off, none⟩)) (h : w.cell? ⟨b, off, none⟩ = some v) : RV P fr w (.cell c T) v :=
 ⟨_, hx, by simp [loadVar, ha, load, Sem.run, h]⟩
variable {d : Option Nat} {t : TypeId} {ps : String} {af : Array Edge} {g : Option (Nat × Bool)} {T : TypeId}
theorem QZ {parts : Array (Nat × Operand)} {vs : List (Nat × Value)} {cells : List Value} (hv : (parts.toList.map fun p => (p.1, ev fr p.2)) = vs) (h : P.built T vs = some cells.toArray) : xop P fr w ⟨d, .build T parts, t, ps, af, g⟩ = .ok (.value (.agg cells.toArray)) w := by
 have e : (parts.map fun (x : Nat × Operand) => match x with | (i, x) => (i, ev fr x)).toList = vs := by
  rw [← hv, Array.toList_map]
 have hr := run_build (P := P) w T (parts.map fun (x : Nat × Operand) => match x with | (i, x) => (i, ev fr x)) cells.toArray (by rw [e]; exact h)
 simp only [xop, execOp, Sem.run_bind, hr, Result.andThen_ok, Sem.run_pure]
variable {x y : Operand} {U : TypeId}
theorem o_convS {k k' : IntKind} {a : Int} (hP : P.underlying T = some (.int k)) (hP' : P.underlying U = some (.int k')) (hx : ev fr x = .int k a) (hw : k'.wrap a = a) : xop P fr w ⟨d, .convert T U x, t, ps, af, g⟩ = .ok (.value (.int k' a)) w := by
 rw [o_conv hP hP' hx, hw]
theorem o_remN {a b : Nat} (hx : ev fr x = .int .i64 (a : Int)) (hy : ev fr y = .int .i64 (b : Int)) (hb : 0 < b) (hr : a ≤ 9223372036854775807) : xop P fr w ⟨d, .binOp .rem T x y U, t, ps, af, g⟩ = .ok (.value (.int .i64 ((a % b : Nat) : Int))) w := by
 rw [o_rem hx hy (by omega) (by omega) ⟨by omega, by omega⟩]; rfl
theorem o_lnil {e : TypeId} {a : Option Addr} {n c : Nat} (hP : P.underlying T = some (.slice e)) (hx : ev fr x = .slice a n c) : xop P fr w ⟨d, .binOp .eql T x (.const (.slice none 0 0)) U, t, ps, af, g⟩ = .ok (.value (.bool a.isNone)) w := by
 have e0 : ∀ d : Nat, (Op.equalIn (d + 1) T (.slice a n c) (.slice none 0 0)).run P w = .ok a.isNone w := fun d => by
  cases a <;> simp [Op.equalIn, run_underlying hP]
 have e1 : (Op.equal T (.slice a n c) (.slice none 0 0)).run P w = .ok a.isNone w := e0 9999
 have : (binOp .eql T (.slice a n c) (.slice none 0 0)).run P w = .ok (.bool a.isNone) w := by
  simp only [binOp]
  simp [e1]
 have e2 : ev fr (.const (.slice none 0 0)) = .slice none 0 0 := rfl
 simp only [xop, execOp, hx, e2, eqGuard]
 simp [this]
theorem o_iaA {e : TypeId} {n i s b off : Nat} {k : IntKind} (hP : P.underlying T = some (.array n e)) (hs : ∀ w, (sizeOf e).run P w = .ok s w) (hx : ev fr x = .pointer (some ⟨b, off, none⟩)) (hy : ev fr y = .int k (i : Int)) (hi : i < n) :
  xop P fr w ⟨d, .indexAddr T x y, t, ps, af, g⟩ = .ok (.value (.pointer (some ⟨b, off + i * s, none⟩))) w := by
 have e1 : (⟨b, off, none⟩ : Addr).add (i * s) = ⟨b, off + i * s, none⟩ := by
  unfold Addr.add
  by_cases h : i * s = 0
  ·rw [if_pos h, h]; rfl
  ·rw [if_neg h]
 have hi' : (i : Int) < n := by omega
 simp [xop, execOp, hx, hy, Instr.indexAt, Instr.sureAddr, asIntOf, run_underlying hP, hs, e1, hi]
theorem o_minN {a b : Nat} {tys : Array TypeId} (hx : ev fr x = .int .i64 (a : Int)) (hy : ev fr y = .int .i64 (b : Int)) : xop P fr w ⟨d, .call { callee := .builtin .min, args := #[x, y], argTypes := tys }, t, ps, af, g⟩ = .ok (.value (.int .i64 ((min a b : Nat) : Int))) w := by
 rw [o_min hx hy]
 have : (if (b : Int) < a then (b : Int) else a) = ((min a b : Nat) : Int) := by split <;> omega
 rw [this]
end
def encB (c : UInt8) : List Value := [.int .u8 (c.toNat : Int)]
theorem QI : EncOk encB 1 := ⟨by decide, fun _ => rfl, fun x u hu => by simp [encB] at hu; subst hu; rfl⟩
theorem Rg_offU {rd : Option Nat} {P : Program} {n : Nat} {K : Fr → World → Prop} {fr : Fr} {w : World} {ops : Array Oper} {o : Oper} {rest : List Oper} {b : Bool} (i g : Nat) (hg : o.guard = some (i, b)) (hi : (ops[i]?).bind (·.dst) = some g) (hc : fr g = undef) (hd : dstOk n o.dst = true) (hk : Rg rd P n ops rest K (fr.put o.dst undef) w) : Rg rd P n ops (o :: rest) K fr w := by
 intro N Q hq a ha
 refine wpListIn_step fun K' hK' => ?_
 have h0 : yielded ops a.tmps i = none := by
  unfold yielded
  have h1 : a.tmps.getD g undef = undef := (congrArg (fun f : Fr => f g) ha.fr).trans hc
  rw [hi]
  rw [Array.getD_eq_getD_getElem?] at h1
  cases hx : a.tmps[g]? with
  | none => simp [hx]
  | some y =>
   rw [hx] at h1
   have h2 : y = undef := by simpa using h1
   subst h2
   simp [hx, undef]
 have hw : Region.wanted o (yielded ops a.tmps) = false := by
  simp only [Region.wanted, hg, h0]; rfl
 rw [hw]
 exact ⟨fun _ _ => trivial, hK' _ _ (hk N Q hq _ (is_put ha hd undef))⟩
