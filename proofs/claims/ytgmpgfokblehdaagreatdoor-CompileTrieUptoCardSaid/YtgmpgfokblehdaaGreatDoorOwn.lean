/- Several texts in one file. -/
import Derived.Test.YtgmpgfokblehdaaGreatDoorBase
import Derived.Laws.MakeOwn
import Derived.Maps.AppendAt
import Derived.Laws.OwnMore
import Derived.Orders
import Derived.OrdersIn
set_option linter.unusedSimpArgs false
set_option linter.unusedVariables false
set_option linter.unnecessarySimpa false
/- Slices that a call owns: append, make, a store to an element, a cut. Nothing of a program stands here. -/
namespace Go.Lx
open Go Go.RowKit
structure EncOk {α : Type} (enc : α → List Value) (k : Nat) : Prop where
 pos : 0 < k
 len : ∀ x, (enc x).length = k
 one : ∀ x, ∀ u ∈ enc x, u.oneCell' = true
section
variable {α : Type} {enc : α → List Value} {k : Nat}
theorem Zz (h : EncOk enc k) (l : List α) : (l.flatMap enc).length = l.length * k := by
 induction l with
 | nil => simp
 | cons x l ih => rw [List.flatMap_cons, List.length_append, ih, h.len, List.length_cons, Nat.add_mul]; omega
theorem YB (h : EncOk enc k) : ∀ (l : List α) (j : Nat), (l.take j).flatMap enc = (l.flatMap enc).take (j * k)
 | [], j => by simp
 | x :: l, 0 => by simp
 | x :: l, j + 1 => by
  rw [List.take_succ_cons, List.flatMap_cons, List.flatMap_cons, YB h l j, List.take_append, h.len]
  have e1 : (j + 1) * k - k = j * k := by rw [Nat.add_mul]; omega
  rw [e1, List.take_of_length_le (l := enc x) (by rw [h.len, Nat.add_mul]; omega)]
theorem fm_drop (h : EncOk enc k) : ∀ (l : List α) (j : Nat), (l.drop j).flatMap enc = (l.flatMap enc).drop (j * k)
 | [], j => by simp
 | x :: l, 0 => by simp
 | x :: l, j + 1 => by
  rw [List.drop_succ_cons, List.flatMap_cons, fm_drop h l j, List.drop_append, h.len]
  have e1 : (j + 1) * k - k = j * k := by rw [Nat.add_mul]; omega
  rw [e1, List.drop_of_length_le (l := enc x) (by rw [h.len, Nat.add_mul]; omega), List.nil_append]
theorem fm_get {l : List α} {i : Nat} {x : α} (h : EncOk enc k) (hi : l[i]? = some x) (j : Nat) (hj : j < k) : (l.flatMap enc)[i * k + j]? = (enc x)[j]? := by
 obtain ⟨hlt, hx⟩ := List.getElem?_eq_some_iff.1 hi
 have h1 : (l.drop i).flatMap enc = enc x ++ (l.drop (i + 1)).flatMap enc := by rw [List.drop_eq_getElem_cons hlt, List.flatMap_cons, hx]
 rw [fm_drop h] at h1
 have h2 : (l.flatMap enc)[i * k + j]? = ((l.flatMap enc).drop (i * k))[j]? := by rw [List.getElem?_drop]
 rw [h2, h1, List.getElem?_append_left (by rw [h.len]; exact hj)]
theorem fm_one (h : EncOk enc k) (l : List α) : ∀ u ∈ l.flatMap enc, u.oneCell' = true := by
 intro u hu
 obtain ⟨x, _, hx⟩ := List.mem_flatMap.1 hu
 exact h.one x u hx
end
structure ElT (P : Program) (T e : TypeId) (size bytes : Nat) (z : Value) : Prop where
 sl : P.underlying T = some (.slice e)
 inf : ∃ i, P.info? e = some i ∧ i.zero = some z ∧ i.size = size ∧ i.bytes = bytes
 zs : z.cells.size = size
 pos : 0 < size
 bp : 0 < bytes
structure Own {α : Type} (enc : α → List Value) (k : Nat) (e : TypeId) (D : Nat → Prop) (w : World) (v : Value) (l : List α) : Prop where
 row : w.ownsRow 0 e k v l.length (l.flatMap enc)
 loc : ∀ g, v.ownBlock = some g → D g
theorem Bel.ofGrown {w w' : World} {v : Value} (hg : w.grownBy w' v.ownBlock) : Bel False (fun g => v.ownBlock = some g) w w' :=
 ⟨hg.os, hg.tape, hg.output, hg.size, fun b hb hn => hg.block b hb fun e => hn e.symm, False.elim⟩
section
variable {α : Type} {enc : α → List Value} {k : Nat} {D : Nat → Prop} {e : TypeId} {w w' : World} {v : Value} {l : List α}
theorem Own.nil (w : World) (D : Nat → Prop) : Own enc k e D w (.slice none 0 0) ([] : List α) := ⟨World.ownsRow_nil w 0 e k, fun g h => by simp [Value.ownBlock] at h⟩
theorem Own.lt (h : Own enc k e D w v l) : ∀ g, v.ownBlock = some g → g < w.heap.size := by
 intro g hg
 rcases h.row.2 with ⟨h1, _⟩ | ⟨g', cap, cur, h1, h2, h3, h4⟩
 ·subst h1; simp [Value.ownBlock] at hg
 ·subst h1
  simp [Value.ownBlock] at hg
  subst hg
  exact (Array.getElem?_eq_some_iff.1 h3).1
theorem Own.keep {γ : Prop} {D' : Nat → Prop} (h : Own enc k e D w v l) (x : Bel γ D' w w') (hd : ∀ g, g < w.heap.size → v.ownBlock = some g → ¬ D' g) : Own enc k e D w' v l := by
 refine ⟨⟨h.row.1, ?_⟩, h.loc⟩
 rcases h.row.2 with h' | ⟨g, cap, cur, h1, h2, h3, h4⟩
 ·exact .inl h'
 ·have hlt := (Array.getElem?_eq_some_iff.1 h3).1
  exact .inr ⟨g, cap, cur, h1, h2, by rw [x.block g hlt (hd g hlt (by rw [h1]; rfl))]; exact h3, h4⟩
theorem Own.keepD {γ : Prop} {D' : Nat → Prop} (h : Own enc k e D w v l) (x : Bel γ D' w w') (hd : ∀ g, g < w.heap.size → D g → ¬ D' g) : Own enc k e D w' v l := h.keep x fun g hg hv => hd g hg (h.loc g hv)
theorem Own.ext {γ : Prop} (h : Own enc k e D w v l) (x : Ext γ w w') : Own enc k e D w' v l := h.keep x fun _ _ _ => id
theorem Own.mono {D' : Nat → Prop} (h : Own enc k e D w v l) (hD : ∀ g, g < w.heap.size → D g → D' g) : Own enc k e D' w v l := ⟨h.row, fun g hg => hD g (h.lt g hg) (h.loc g hg)⟩
theorem Own.at {D' : Nat → Prop} (h : Own enc k e D w v l) (hD : ∀ g, g < w.heap.size → v.ownBlock = some g → D' g) : Own enc k e D' w v l := ⟨h.row, fun g hg => hD g (h.lt g hg) hg⟩
theorem Own.sl (h : Own enc k e D w v l) (he : EncOk enc k) : ∃ a c, v = .slice a l.length c ∧ Sl enc k D w a c l := by
 rcases h.row.2 with ⟨h1, h2⟩ | ⟨g, cap, cur, h1, h2, h3, h4, h5, h6, h7⟩
 ·have hl : l = [] := List.eq_nil_of_length_eq_zero h2
  subst hl
  exact ⟨none, 0, h1, Sl.none⟩
 ·refine ⟨some ⟨g, 0, none⟩, cap, h1, h4, h5, (fun h => by cases h), ?_⟩
  intro i x hi
  have hlt := (Array.getElem?_eq_some_iff.1 h3).1
  refine ⟨g, 0, rfl, ⟨h.loc g (by rw [h1]; rfl), hlt⟩, ?_, he.len x⟩
  intro j u hj
  have hjk : j < k := by
   have := (List.getElem?_eq_some_iff.1 hj).1
   rwa [he.len x] at this
  have hg := fm_get he hi j hjk
  rw [hj, ← h7, List.getElem?_take] at hg
  split at hg
  ·rw [Nat.zero_add]
   simp only [World.cell?, h3]
   simpa using hg
  ·cases hg
theorem Own.slA {a : Option Addr} {m c : Nat} (h : Own enc k e D w (.slice a m c) l) (he : EncOk enc k) : Sl enc k D w a c l := by
 obtain ⟨a', c', h1, h2⟩ := h.sl he
 simp at h1
 obtain ⟨rfl, rfl, rfl⟩ := h1
 exact h2
theorem Own.rd (h : Own enc k e D w v l) (he : EncOk enc k) : Rd enc k D w v l := h.sl he
theorem Own.trd (h : Own enc k e D w v l) (he : EncOk enc k) : Rd enc k (Lt w.heap.size) w v l := (h.rd he).top
theorem Sl.cells {F : Nat → Prop} {a : Option Addr} {c : Nat} (h : Sl enc k F w a c l) (he : EncOk enc k) (hl : l ≠ []) : ∃ b off, a = some ⟨b, off, Option.none⟩ ∧ (F b ∧ b < w.heap.size) ∧ At w b off (l.flatMap enc) := by
 have h0 : 0 < l.length := List.length_pos_iff.2 hl
 obtain ⟨b, off, h1, h2, _⟩ := h.el 0 l[0] (List.getElem?_eq_getElem h0)
 refine ⟨b, off, h1, h2, fun j u hj => ?_⟩
 have hjl : j < l.length * k := by
  have := (List.getElem?_eq_some_iff.1 hj).1
  rwa [Zz he] at this
 have hk := he.pos
 have hi : j / k < l.length := Nat.div_lt_of_lt_mul (by rw [Nat.mul_comm]; exact hjl)
 have hm : j % k < k := Nat.mod_lt _ hk
 have e1 : j = (j / k) * k + j % k := by have := Nat.div_add_mod j k; rw [Nat.mul_comm] at this; exact this.symm
 obtain ⟨b', off', g1, _, g3, _⟩ := h.el (j / k) l[j / k] (List.getElem?_eq_getElem hi)
 rw [h1] at g1
 simp only [Option.some.injEq, Addr.mk.injEq, and_true] at g1
 obtain ⟨rfl, rfl⟩ := g1
 have hg := fm_get he (List.getElem?_eq_getElem hi) (j % k) hm
 rw [← e1, hj] at hg
 have := g3 (j % k) u hg.symm
 rwa [Nat.add_assoc, ← e1] at this
end
section
variable {rd : Option Nat} {P : Program} {n : Nat} {K : Fr → World → Prop} {fr : Fr} {w : World} {α : Type} {enc : α → List Value} {k : Nat} {D : Nat → Prop} {T e : TypeId} {by_ : Nat} {z : Value}
theorem app_run {ty : TypeId} {v : Value} {l : List α} {ad : Addr} {m c : Nat} (news : List α) (he : EncOk enc k) (ht : ElT P T e k by_ z) (ho : Own enc k e D w v l) (hn : ∀ j u, (news.flatMap enc)[j]? = some u → w.cell? (ad.add j) = some u) (hm : news.length = m) (hb : (l.length + m) * by_ ≤ 140737488355328) (hD : ∀ g, w.heap.size ≤ g → D g) :
  ∃ v' w', (Builtin.append_ #[T, T] ty #[v, .slice (some ad) m c]).run P w = .ok v' w' ∧ Bel False D w w' ∧ Own enc k e D w' v' (l ++ news) := by
 obtain ⟨i, hi, hz, hs, hby⟩ := ht.inf
 subst hm
 have hcap : l.length + news.length ≤ maxLen := by
  have : l.length + news.length ≤ (l.length + news.length) * by_ := Nat.le_mul_of_pos_right _ ht.bp
  unfold maxLen; omega
 obtain ⟨v', w', hr, h2, h3, _, h5⟩ := run_append_own_at (P := P) w 0 T ty e i z k by_ ht.sl hi hz hs hby ht.zs ht.pos v l.length (l.flatMap enc) ho.row ad news.length c (news.flatMap enc) (Zz he news) hn (fm_one he news) hcap hb (Nat.zero_le _)
 refine ⟨v', w', hr, (Bel.ofGrown h3).mono fun g _ hg => ho.loc g hg, ⟨by rw [List.length_append, List.flatMap_append]; exact h2, fun g hg => ?_⟩⟩
 rcases h5 with h5 | h5
 ·exact ho.loc g (by rw [← h5]; exact hg)
 ·rw [h5] at hg
  exact hD g (by injection hg with hg; omega)
theorem ZZ {ops : Array Oper} {rest : List Oper} {d : Option Nat} {ty : TypeId} {pos : String} {af : Array Edge} {x y : Operand} {v : Value} {l news : List α} {a : Option Addr} {m c : Nat} {F : Nat → Prop}
  (hd : dstOk n d = true) (he : EncOk enc k) (ht : ElT P T e k by_ z) (hx : ev fr x = v) (hy : ev fr y = .slice a m c) (ho : Own enc k e D w v l)
  (hn : Sl enc k F w a c news) (hm : news.length = m) (hb : (l.length + news.length) * by_ ≤ 140737488355328) (hD : ∀ g, w.heap.size ≤ g → D g)
  (hk : ∀ v' w', Bel False D w w' → Own enc k e D w' v' (l ++ news) → Rg rd P n ops rest K (fr.put d v') w') :
  Rg rd P n ops (⟨d, .call { callee := .builtin .append, args := #[x, y], argTypes := #[T, T] }, ty, pos, af, none⟩ :: rest) K fr w := by
 obtain ⟨i, hi, hz, hs, hby⟩ := ht.inf
 have key : ∃ v' w', (Builtin.append_ #[T, T] ty #[v, .slice a m c]).run P w = .ok v' w' ∧ Bel False D w w' ∧ Own enc k e D w' v' (l ++ news) := by
  cases a with
  | none =>
   have hc := hn.nil rfl
   have hl := hn.le
   subst hm
   have h0 : news = [] := List.eq_nil_of_length_eq_zero (by omega)
   subst h0
   subst hc
   exact ⟨v, w, run_append_owned_none (P := P) w 0 T ty e i k ht.sl hi v l.length (l.flatMap enc) ho.row, Bel.refl _ _, by rw [List.append_nil]; exact ho⟩
  | some ad =>
   refine app_run news he ht ho ?_ hm (by rw [← hm]; exact hb) hD
   intro j u hj
   have hne : news ≠ [] := by rintro rfl; simp at hj
   obtain ⟨b, off, h1, h2, h3⟩ := hn.cells he hne
   simp only [Option.some.injEq] at h1
   subst h1
   have := h3 j u hj
   unfold Addr.add
   by_cases h : j = 0
   ·subst h; simpa using this
   ·rw [if_neg h]; exact this
 obtain ⟨v', w', hr, h2, h3⟩ := key
 have hrun : (execOp (ev fr) ⟨d, .call { callee := .builtin .append, args := #[x, y], argTypes := #[T, T] }, ty, pos, af, none⟩).run P w = .ok (.value v') w' := by
  simp [execOp, resolve, invoke, builtin, hx, hy, hr]
 exact ZX hd hrun (hk v' w' h2 h3)
theorem o_llenO {d : Option Nat} {t : TypeId} {ps : String} {af : Array Edge} {g : Option (Nat × Bool)} {x : Operand} {v : Value} {l : List α} (hP : P.underlying T = some (.slice e)) (hx : ev fr x = v) (ho : Own enc k e D w v l) : xop P fr w ⟨d, .call { callee := .builtin .len, args := #[x], argTypes := #[T] }, t, ps, af, g⟩ = .ok (.value (.int .i64 (l.length : Int))) w := by
 rcases ho.row.2 with ⟨h1, h2⟩ | ⟨g, cap, cur, h1, _⟩
 ·rw [h2]; exact QC hP (hx.trans h1)
 ·exact QC hP (hx.trans h1)
/-! buildSlice -/
def number (i : Nat) : List Value → List (Nat × Value)
 | [] => []
 | v :: r => (i, v) :: number (i + 1) r
def flat (vs : List Value) : List Value := vs.flatMap fun v => v.cells.toList
theorem fold_set (off : Nat) : ∀ (cs : List Value) (m : Nat) (A : Array Value), off + m + cs.length ≤ A.size →
  (cs.zipIdx m).foldl (fun a (p : Value × Nat) => a.setIfInBounds (off + p.2) p.1) A = (A.toList.take (off + m) ++ cs ++ A.toList.drop (off + m + cs.length)).toArray
 | [], m, A, _ => by simp
 | c :: cs, m, A, h => by
  simp only [List.length_cons] at h
  rw [List.zipIdx_cons, List.foldl_cons, fold_set off cs (m + 1) _ (by simp; omega)]
  apply congrArg
  have hlt : off + m < A.toList.length := by simp; omega
  simp only [Array.toList_setIfInBounds, List.length_cons]
  rw [List.drop_set_of_lt (by omega), show off + (m + 1) = off + m + 1 from by omega, List.take_succ_eq_append_getElem (by simpa using hlt), List.take_set_of_le (Nat.le_refl _)]
  simp only [List.getElem_set_self, List.append_assoc, List.cons_append, List.nil_append]
  rw [show off + m + 1 + cs.length = off + m + (cs.length + 1) from by omega]
theorem fill_number (s : Nat) : ∀ (vs : List Value) (i : Nat) (A : Array Value), (∀ v ∈ vs, v.cells.size = s) → i * s + (flat vs).length ≤ A.size →
  Instr.fill (fun i => some (i * s, s)) A (number i vs) = some (A.toList.take (i * s) ++ flat vs ++ A.toList.drop (i * s + (flat vs).length)).toArray
 | [], i, A, _, _ => by simp [number, Instr.fill, flat]
 | v :: vs, i, A, hv, hl => by
  have hv0 : v.cells.size = s := hv v (by simp)
  have hf : flat (v :: vs) = v.cells.toList ++ flat vs := by simp [flat]
  rw [hf, List.length_append, Array.length_toList, hv0] at hl
  simp only [number, Instr.fill]
  rw [if_neg (by simp [hv0]; omega)]
  have e1 : v.cells.zipIdx.foldl (fun cs (x : Value × Nat) => cs.setIfInBounds (i * s + x.2) x.1) A = (A.toList.take (i * s) ++ v.cells.toList ++ A.toList.drop (i * s + s)).toArray := by
   rw [← Array.foldl_toList, Array.toList_zipIdx, fold_set (i * s) v.cells.toList 0 A (by simp [hv0]; omega)]
   simp [hv0]
  have e2 := e1
  rw [show (v.cells.zipIdx.foldl (fun cs (x : Value × Nat) => match x with | (c, j) => cs.setIfInBounds (i * s + j) c) A) = v.cells.zipIdx.foldl (fun cs (x : Value × Nat) => cs.setIfInBounds (i * s + x.2) x.1) A from rfl, e1]
  have hsz : (A.toList.take (i * s)).length = i * s := by rw [List.length_take]; simp; omega
  have hvl : v.cells.toList.length = s := by simp [hv0]
  rw [fill_number s vs (i + 1) _ (fun u hu => hv u (by simp [hu])) (by
   simp only [List.size_toArray, List.length_append, hsz, hvl, List.length_drop, Array.length_toList, Nat.add_mul]; omega)]
  apply congrArg; apply congrArg
  have hA : (A.toList.take (i * s) ++ v.cells.toList).length = (i + 1) * s := by rw [List.length_append, hsz, hvl, Nat.add_mul]; omega
  have e3 : (A.toList.take (i * s) ++ v.cells.toList ++ A.toList.drop (i * s + s)).take ((i + 1) * s) = A.toList.take (i * s) ++ v.cells.toList := by rw [← hA, List.take_left]
  have e4 : (A.toList.take (i * s) ++ v.cells.toList ++ A.toList.drop (i * s + s)).drop ((i + 1) * s + (flat vs).length) = A.toList.drop (i * s + (s + (flat vs).length)) := by
   rw [← List.drop_drop, ← hA, List.drop_left, List.drop_drop]
   congr 1; omega
  simp only [List.toList_toArray]
  rw [e3, e4, hf, List.length_append, hvl]
  simp only [List.append_assoc]
theorem run_bs {vs : List Value} {parts : Array (Nat × Value)} {len s : Nat} (ht : ElT P T e s by_ z) (hp : parts.toList = number 0 vs) (hv : ∀ v ∈ vs, v.cells.size = s) (hn : vs.length = len) (hsm : len * s ≤ 16777216) :
  (Instr.buildSlice T len parts).run P w = .ok (.slice (some ⟨w.heap.size, 0, none⟩) len len) (w.alloc (.cells (flat vs).toArray e)) := by
 obtain ⟨i, hi, hz, hs, hby⟩ := ht.inf
 have hfl : ∀ (us : List Value), (∀ v ∈ us, v.cells.size = s) → (flat us).length = us.length * s := by
  intro us
  induction us with
  | nil => intro _; simp [flat]
  | cons u us ih =>
   intro h
   have : flat (u :: us) = u.cells.toList ++ flat us := by simp [flat]
   rw [this, List.length_append, ih (fun x hx => h x (by simp [hx])), Array.length_toList, h u (by simp), List.length_cons, Nat.add_mul]; omega
 have hfill : ∀ A : Array Value, A.size = len * s → Instr.fill (fun i => some (i * s, s)) A parts.toList = some (flat vs).toArray := by
  intro A hA
  rw [hp, fill_number s vs 0 A hv (by rw [hfl vs hv, hn, hA]; omega)]
  apply congrArg; apply congrArg
  simp only [Nat.zero_mul, List.take_zero, List.nil_append, Nat.zero_add]
  rw [List.drop_of_length_le (by rw [hfl vs hv, hn]; simp [hA]), List.append_nil]
 have hns : ¬ (2 ^ 24 < len * s) := by omega
 by_cases h0 : len * s = 0
 ·have := hfill #[] (by simp [h0])
  simp [Instr.buildSlice, run_underlying ht.sl, sizeOf, typeInfo, hi, hs, hns, h0, newRow, Array.range_zero']
  rw [this]; simp [newObj, Sem.run]
 ·have := hfill ((Array.range (len * s)).map (z.cells[· % z.cells.size]!)) (by simp)
  simp [Instr.buildSlice, run_underlying ht.sl, sizeOf, typeInfo, hi, hs, hns, h0, zeroValue, hz, newRow]
  rw [this]; simp [newObj, Sem.run]
def idxs (i : Nat) : List Operand → List Nat
 | [] => []
 | _ :: r => i :: idxs (i + 1) r
theorem number_of : ∀ (ps : List (Nat × Operand)) (f : Operand → Value) (i : Nat), ps.map (·.1) = idxs i (ps.map (·.2)) → ps.map (fun p => (p.1, f p.2)) = number i (ps.map fun p => f p.2)
 | [], _, _, _ => rfl
 | p :: ps, f, i, h => by
  simp only [List.map_cons, idxs, List.cons.injEq] at h
  simp only [List.map_cons, number, number_of ps f (i + 1) h.2, h.1]
def sizesOk (s : Nat) : List Value → Prop
 | [] => True
 | v :: r => v.cells.size = s ∧ sizesOk s r
theorem sizesOk.mem {s : Nat} : ∀ {vs : List Value}, sizesOk s vs → ∀ v ∈ vs, v.cells.size = s
 | [], _, v, hv => by simp at hv
 | u :: r, h, v, hv => by
  rcases List.mem_cons.1 hv with rfl | hv
  ·exact h.1
  ·exact h.2.mem v hv
theorem ZP {ops : Array Oper} {rest : List Oper} {d : Option Nat} {ty : TypeId} {pos : String} {af : Array Edge} {len : Nat} {parts : Array (Nat × Operand)} {vs : List Value} (news : List α)
  (hd : dstOk n d = true) (he : EncOk enc k) (ht : ElT P T e k by_ z) (hi : parts.toList.map (·.1) = idxs 0 (parts.toList.map (·.2))) (hv : (parts.toList.map fun p => ev fr p.2) = vs) (hs : sizesOk k vs) (hf : flat vs = news.flatMap enc) (hl : news.length = len) (hp : parts.toList.length = len) (hsm : Nat.ble (len * k) 16777216 = true)
  (hk : ∀ a w', Ext True w w' → Own enc k e (Fsh w w') w' (.slice a len len) news → Rg rd P n ops rest K (fr.put d (.slice a len len)) w') :
  Rg rd P n ops (⟨d, .buildSlice T len parts, ty, pos, af, none⟩ :: rest) K fr w := by
 have hpn : (parts.map fun (x : Nat × Operand) => (x.1, ev fr x.2)).toList = number 0 vs := by
  rw [← hv, Array.toList_map]; exact number_of _ _ _ hi
 have hlen : vs.length = len := by rw [← hv, List.length_map]; exact hp
 have hr := run_bs (w := w) (len := len) ht hpn hs.mem hlen (by simpa using hsm)
 have hle : len ≤ 16777216 := by
  have h1 : len * k ≤ 16777216 := by simpa using hsm
  exact Nat.le_trans (Nat.le_mul_of_pos_right _ he.pos) h1
 refine ZX hd (v := .slice (some ⟨w.heap.size, 0, none⟩) len len) (w' := w.alloc (.cells (flat vs).toArray e)) ?_ (hk _ _ (Ext.alloc _ _) ⟨⟨by rw [Zz he], .inr ⟨w.heap.size, len, (flat vs).toArray, by rw [hl], Nat.zero_le _, heap_alloc_new w _, by rw [hl]; exact Nat.le_refl _, by unfold maxLen; omega, by rw [hf, List.size_toArray, Zz he, hl], by rw [hf, List.toList_toArray, List.take_of_length_le (by rw [Zz he]; exact Nat.le_refl _)]⟩⟩, ?_⟩)
 ·simp only [execOp]
  simp only [Sem.run_bind, Sem.run_pure]
  have : (Array.map (fun x : Nat × Operand => match x with | (i, x) => (i, ev fr x)) parts) = parts.map fun (x : Nat × Operand) => (x.1, ev fr x.2) := rfl
  rw [this, hr]
  rfl
 ·intro g hg
  simp [Value.ownBlock] at hg
  subst hg
  exact ⟨Nat.le_refl _, by simp⟩
theorem Z7 {x : α} (he : EncOk enc k) (hz : z.cells.toList = enc x) (m : Nat) : (madeCells z.cells (m * k)).toList = (List.replicate m x).flatMap enc := by
 have hzs : z.cells.size = k := by rw [← Array.length_toList, hz, he.len]
 apply List.ext_getElem?
 intro j
 by_cases hj : j < m * k
 ·have hk := he.pos
  have h1 : j / k < m := Nat.div_lt_of_lt_mul (by rw [Nat.mul_comm]; exact hj)
  have h2 : j % k < k := Nat.mod_lt _ hk
  have e1 : j = (j / k) * k + j % k := by have := Nat.div_add_mod j k; rw [Nat.mul_comm] at this; exact this.symm
  have hr : (List.replicate m x)[j / k]? = some x := by simp [h1]
  have e2 := fm_get he hr (j % k) h2
  rw [← e1] at e2
  rw [e2, ← hz]
  simp only [madeCells, Array.toList_map, Array.toList_range, List.getElem?_map]
  rw [List.getElem?_range hj]
  simp [hzs, h2]
 ·have : ((List.replicate m x).flatMap enc).length ≤ j := by rw [Zz he]; simp; omega
  rw [List.getElem?_eq_none this, List.getElem?_eq_none]
  simp [madeCells]; omega
theorem Z8 {ops : Array Oper} {rest : List Oper} {d : Option Nat} {ty : TypeId} {pos : String} {af : Array Edge} {x y : Operand} {m : Nat} (x0 : α)
  (hd : dstOk n d = true) (he : EncOk enc k) (ht : ElT P T e k by_ z) (hz : z.cells.toList = enc x0) (hx : ev fr x = .int .i64 (m : Int)) (hy : ev fr y = .int .i64 (m : Int)) (hb : m * by_ ≤ 140737488355328)
  (hk : ∀ a w', Ext True w w' → Own enc k e (Fsh w w') w' (.slice a m m) (List.replicate m x0) → Rg rd P n ops rest K (fr.put d (.slice a m m)) w') :
  Rg rd P n ops (⟨d, .makeSlice T x y, ty, pos, af, none⟩ :: rest) K fr w := by
 obtain ⟨i, hi, hzz, hs, hby⟩ := ht.inf
 have hm : m ≤ 140737488355328 := Nat.le_trans (Nat.le_mul_of_pos_right _ ht.bp) hb
 have hbi : (i.bytes : Int) * (m : Int) ≤ 281474976710656 := by
  rw [hby, ← Int.natCast_mul, Nat.mul_comm]; omega
 have hr := run_make (P := P) w T e i z ht.sl hi hzz .i64 .i64 (m : Int) (m : Int) (by omega) (Int.le_refl _) hbi (by omega)
 rw [hs] at hr
 simp only [Int.toNat_natCast] at hr
 refine ZX hd (v := .slice (some ⟨w.heap.size, 0, none⟩) m m) (w' := w.alloc (.cells (madeCells z.cells (m * k)) e)) ?_ (hk _ _ (Ext.alloc _ _) ⟨⟨by rw [Zz he], .inr ⟨w.heap.size, m, _, by simp, Nat.zero_le _, heap_alloc_new w _, by simp, by unfold maxLen; omega, size_madeCells _ _, ?_⟩⟩, ?_⟩)
 ·simp [execOp, hx, hy, hr]
 ·rw [Z7 (x := x0) he hz, List.take_of_length_le (by rw [Zz he]; simp)]
 ·intro g hg
  simp [Value.ownBlock] at hg
  subst hg
  exact ⟨Nat.le_refl _, by simp⟩
theorem set_flat {l : List α} {i : Nat} {x : α} (he : EncOk enc k) (hi : i < l.length) : (l.set i x).flatMap enc = (l.flatMap enc).take (i * k) ++ enc x ++ (l.flatMap enc).drop (i * k + k) := by
 rw [List.set_eq_take_append_cons_drop, if_pos hi, List.flatMap_append, List.flatMap_cons, YB he, fm_drop he, List.append_assoc, show (i + 1) * k = i * k + k from by rw [Nat.add_mul]; omega]
theorem ZG {ops : Array Oper} {rest : List Oper} {d : Option Nat} {ty : TypeId} {pos : String} {af : Array Edge} {U : TypeId} {x y : Operand} {v : Value} {l : List α} {a : Option Addr} {c i m : Nat} {u : α}
  (hd : dstOk n d = true) (he : EncOk enc k) (hs : ∀ w, (sizeOf U).run P w = .ok k w) (hx : ev fr x = .pointer (elp a (i * k))) (hy : ev fr y = v) (hv : v.cells.toList = enc u) (ho : Own enc k e D w (.slice a m c) l) (hi : i < l.length)
  (hk : ∀ w', Bel True D w w' → Own enc k e D w' (.slice a m c) (l.set i u) → Rg rd P n ops rest K (fr.put d undef) w') :
  Rg rd P n ops (⟨d, .store U x y, ty, pos, af, none⟩ :: rest) K fr w := by
 rcases ho.row.2 with ⟨h1, h2⟩ | ⟨g, cap, cur, h1, h2, h3, h4, h5, h6, h7⟩
 ·omega
 ·have hsl : a = some ⟨g, 0, none⟩ ∧ m = l.length ∧ c = cap := by simp at h1; exact h1
  obtain ⟨rfl, rfl, rfl⟩ := hsl
  rw [ZY, Nat.zero_add] at hx
  have hlk : l.length * k ≤ cur.size := by rw [h6]; exact Nat.mul_le_mul_right _ h4
  have hik : i * k + k ≤ l.length * k := by rw [← Nat.succ_mul]; exact Nat.mul_le_mul_right _ hi
  have hvl : v.cells.toList.length = k := by rw [hv, he.len]
  have hst := run_storeCells_at (P := P) g (i * k) e v.cells.toList 0 cur w h3 (by rw [hvl]; omega) (by rw [hv]; exact he.one u)
  simp only [Nat.add_zero, hvl] at hst
  have hsz : v.cells.size = k := by rw [← Array.length_toList]; exact hvl
  refine Rg_skip hd (w' := w.setRow g (cur.toList.take (i * k) ++ v.cells.toList ++ cur.toList.drop (i * k + k)).toArray) ?_ (hk _ ?_ ?_)
  ·simp [execOp, hx, hy, Instr.storeAt, Instr.sureAddr, storeVar, hs, hsz, hst]
  ·exact ⟨rfl, rfl, rfl, by simp, fun j _ hj => setRow_other w g j _ (fun e => hj (by subst e; exact ho.loc _ rfl)), fun _ => Nat.le_refl _⟩
  ·have hcl : (cur.toList.take (i * k) ++ v.cells.toList ++ cur.toList.drop (i * k + k)).length = cur.size := by
    simp only [List.length_append, hvl, List.length_take, List.length_drop, Array.length_toList]; omega
   refine ⟨⟨by rw [Zz he], .inr ⟨g, c, _, by simp, h2, setRow_heap w g cur _ e _ h3, by simpa using h4, h5, by rw [List.size_toArray, hcl, h6], ?_⟩⟩, ho.loc⟩
   rw [List.length_set, List.toList_toArray, set_flat he hi, ← hv]
   have t1 : cur.toList.take (i * k) = (l.flatMap enc).take (i * k) := by rw [← h7, List.take_take]; congr 1; omega
   have t2 : (l.flatMap enc).drop (i * k + k) = (cur.toList.drop (i * k + k)).take (l.length * k - (i * k + k)) := by rw [← h7, List.drop_take]
   rw [t1, t2]
   have hA : ((l.flatMap enc).take (i * k) ++ v.cells.toList).length = i * k + k := by
    rw [List.length_append, hvl, List.length_take, Zz he]; omega
   rw [List.take_append, hA, List.take_of_length_le (by rw [hA]; exact hik)]
theorem Own.cut {w : World} {l : List α} {a : Option Addr} {m c j : Nat} (he : EncOk enc k) (h : Own enc k e D w (.slice a m c) l) (hj : j ≤ l.length) : Own enc k e D w (.slice a j c) (l.take j) := by
 have hl : (l.take j).length = j := by rw [List.length_take]; omega
 have hloc : ∀ g, (Value.slice a j c).ownBlock = some g → D g := by
  intro g hg
  refine h.loc g ?_
  cases a <;> simpa [Value.ownBlock] using hg
 refine ⟨⟨by rw [Zz he], ?_⟩, hloc⟩
 rcases h.row.2 with ⟨h1, h2⟩ | ⟨g, cap, cur, h1, h2, h3, h4, h5, h6, h7⟩
 ·simp at h1
  obtain ⟨rfl, rfl, rfl⟩ := h1
  have : j = 0 := by omega
  subst this
  exact .inl ⟨rfl, by simp⟩
 ·simp at h1
  obtain ⟨rfl, rfl, rfl⟩ := h1
  refine .inr ⟨g, c, cur, by rw [hl], h2, h3, by rw [hl]; omega, h5, h6, ?_⟩
  rw [hl, YB he, ← h7, List.take_take]
  congr 1
  exact (Nat.min_eq_left (Nat.mul_le_mul_right _ hj)).symm
theorem o_min {x y : Operand} {d : Option Nat} {t : TypeId} {ps : String} {af : Array Edge} {g : Option (Nat × Bool)} {tys : Array TypeId} {a b : Int} (hx : ev fr x = .int .i64 a) (hy : ev fr y = .int .i64 b) :
  xop P fr w ⟨d, .call { callee := .builtin .min, args := #[x, y], argTypes := tys }, t, ps, af, g⟩ = .ok (.value (.int .i64 (if b < a then b else a))) w := by
 simp [xop, execOp, resolve, invoke, builtin, hx, hy, Builtin.min_, Builtin.min2]
end
end Go.Lx
/- A region that draws its order: each operation has a post of its own value, stable under a world that goes on; stores stand last. Nothing of a program stands here. -/
namespace Go.Lx
open Go Go.RowKit
abbrev Post := Value → World → Prop
def Stable (p : Post) : Prop := ∀ v w w', p v w → Ext False w w' → p v w'
def peq (V : Value) : Post := fun v _ => v = V
theorem Qd (V : Value) : Stable (peq V) := fun _ _ _ h _ => h
def StableL : List Post → Prop
 | [] => True
 | p :: r => Stable p ∧ StableL r
theorem StableL.get : ∀ {l : List Post}, StableL l → ∀ (j : Nat) (p : Post), l[j]? = some p → Stable p
 | [], _, j, p, h => by simp at h
 | q :: r, h, 0, p, e => by simp at e; subst e; exact h.1
 | q :: r, h, j + 1, p, e => h.2.get j p (by simpa using e)
def dsl (l : List Oper) (i : Nat) : Nat := ((l[i]?).bind (·.dst)).getD 0
def prs (o : Oper) : List Nat := (o.after.toList.filter fun e => Region.binds .any e).map (·.on)
def looks (l : List Oper) (o : Oper) : List Nat := o.looksAt l.toArray
def hasSel : Op → Bool
 | .select .. => true
 | _ => false
def drawOk (n : Nat) (l : List Oper) (m0 : Nat) : Bool :=
 (List.range m0).all (fun i => match l[i]? with
  | none => false
  | some o => (match o.dst with
    | none => false
    | some d => Nat.blt d n && (List.range i).all fun j => !(Nat.beq (dsl l j) d)) &&
   (prs o).all (fun j => Nat.blt j i) && !hasSel o.op &&
   (looks l o).all fun s => (List.range m0).all fun j => !(Nat.beq (dsl l j) s) || (prs o).contains j) &&
 (List.range l.length).all (fun i => Nat.blt i m0 || (match l[i]? with
  | none => false
  | some o => ((List.range i).all fun j => (prs o).contains j) || (Nat.blt m0 i && (prs o).contains (i - 1)))) && (List.range l.length).all (fun i => match l[i]? with | none => true | some o => (prs o).all fun j => Nat.blt j i) && Nat.ble m0 l.length
def yF (ops : Array Oper) (fr : Fr) (j : Nat) : Option Bool :=
 match (ops[j]?).bind (·.dst) with
 | none => none
 | some s => match fr s with
  | .bool b => some b
  | _ => none
theorem yF_eq (ops : Array Oper) (a : Act) (j : Nat) : yielded ops a.tmps j = yF ops (frOf a) j := by
 unfold yielded yF
 cases hd : (ops[j]?).bind (·.dst) with
 | none => rfl
 | some s =>
  simp only [Option.bind_some, frOf, Array.getD_eq_getD_getElem?]
  cases a.tmps[s]? with
  | none => rfl
  | some v => cases v <;> rfl
def OpS (β : Prop) (P : Program) (ops : Array Oper) (o : Oper) (fr : Fr) (w : World) (S : Post) : Prop :=
 (Region.wanted o (yF ops fr) = true ∧ ((∃ v w', (execOp (ev fr) o).run P w = .ok (.value v) w' ∧ Ext β w w' ∧ S v w') ∨ (∃ f args w0, (execOp (ev fr) o).run P w = .ok (.enter f args) w0 ∧ Ok P f args w0 fun v w' => Ext β w w' ∧ S v w'))) ∨
 (Region.wanted o (yF ops fr) = false ∧ S undef w)
def bindP : List (Nat × Post) → Fr → World → (Fr → Prop) → Prop
 | [], fr, _, K => K fr
 | (d, p) :: r, fr, w, K => ∀ v, p v w → bindP r (fr.set d v) w K
def predP (l : List Oper) (posts : List Post) (o : Oper) : List (Nat × Post) := (prs o).map fun j => (dsl l j, (posts[j]?).getD (peq undef))
def OblL (β : Prop) (P : Program) (l : List Oper) (posts : List Post) (fr : Fr) (w : World) : List Oper → Nat → Prop
 | [], _ => True
 | o :: r, i => (∀ w', Ext β w w' → bindP (predP l posts o) fr w' fun fr' => OpS β P l.toArray o fr' w' ((posts[i]?).getD (peq undef))) ∧ OblL β P l posts fr w r (i + 1)
def finL (l : List Oper) (posts : List Post) (m0 : Nat) : List (Nat × Post) := (List.range m0).map fun j => (dsl l j, (posts[j]?).getD (peq undef))
theorem YC : ∀ (L : List (Nat × Post)) (fr g : Fr) (w : World) (K : Fr → Prop), bindP L fr w K → (∀ p ∈ L, p.2 (g p.1) w) → ∃ fr', K fr' ∧ fr'.ds = fr.ds ∧ (∀ s, (∃ p ∈ L, p.1 = s) → fr' s = g s) ∧ (∀ s, (∀ p ∈ L, p.1 ≠ s) → fr' s = fr s)
 | [], fr, g, w, K, h, _ => ⟨fr, h, rfl, fun s hs => by simp at hs, fun _ _ => rfl⟩
 | (d, p) :: r, fr, g, w, K, h, hp => by
  obtain ⟨fr', h1, hds, h2, h3⟩ := YC r (fr.set d (g d)) g w K (h (g d) (hp (d, p) (by simp))) (fun q hq => hp q (by simp [hq]))
  refine ⟨fr', h1, hds, ?_, ?_⟩
  ·rintro s ⟨q, hq, rfl⟩
   by_cases hr : ∃ q' ∈ r, q'.1 = q.1
   ·exact h2 _ hr
   ·rcases List.mem_cons.1 hq with rfl | hq
    ·rw [h3 _ (fun q' hq' e => hr ⟨q', hq', e⟩)]
     exact Yj
    ·exact absurd ⟨q, hq, rfl⟩ hr
  ·intro s hs
   rw [h3 s (fun q hq => hs q (by simp [hq])), JF (fun e => hs (d, p) (by simp) e.symm)]
section
variable {rd : Option Nat} {β : Prop} {P : Program} {n : Nat} {K : Fr → World → Prop} {E : Nat → Fr → World → Prop} {R : Fr → World → Prop} {fr : Fr} {w : World} {l : List Oper} {m0 : Nat}
theorem Va {F : Fence} {N : Nat} {ops : Array Oper} {Q : Exit → Act → World → Prop} (hops : ops = l.toArray)
  (hall : ∀ i o, m0 ≤ i → l[i]? = some o → ((∀ j, j < i → j ∈ prs o) ∨ (m0 < i ∧ i - 1 ∈ prs o) ∨ i = m0) ∧ (∀ j ∈ prs o, j < i)) :
  ∀ (fuel t : Nat) (listed : Array Bool) (a : Act) (w : World), m0 ≤ t → l.length ≤ t + fuel → listed.size = l.length → (∀ j, j < t → j < l.length → listed.getD j false = true) → (∀ j, t ≤ j → j < l.length → listed.getD j true = false) →
   wpListIn F N P ops Q (l.drop t) a w → wpAnyIn F N P .any ops Q fuel listed a w := by
 have hrdy : ∀ (t : Nat) (listed : Array Bool), m0 ≤ t → listed.size = l.length → (∀ j, j < t → j < l.length → listed.getD j false = true) → (∀ j, t ≤ j → j < l.length → listed.getD j true = false) → ∀ i, i ∈ Region.ready .any ops listed ↔ (i = t ∧ t < l.length) := by
  intro t listed ht hs h1 h2 i
  rw [mem_ready, hops]
  constructor
  ·rintro ⟨h3, o, ho, h4⟩
   have ho' : l[i]? = some o := by simpa using ho
   have hi : i < l.length := (List.getElem?_eq_some_iff.1 ho').1
   have hti : t ≤ i := by
    rcases Nat.lt_or_ge i t with h | h
    ·have := h1 i h hi
     have hsz : i < listed.size := by omega
     simp [Array.getD, hsz] at this h3
     rw [this] at h3; cases h3
    ·exact h
   rcases Nat.lt_or_ge t i with h | h
   ·obtain ⟨q, hq1, hq2, hp⟩ : ∃ q, t ≤ q ∧ q < i ∧ q ∈ prs o := by
     rcases (hall i o (by omega) ho').1 with hq | ⟨_, hq⟩ | hq
     ·exact ⟨t, Nat.le_refl _, h, hq t h⟩
     ·exact ⟨i - 1, by omega, by omega, hq⟩
     ·omega
    simp only [prs, List.mem_map, List.mem_filter] at hp
    obtain ⟨e, ⟨he, hb⟩, het⟩ := hp
    have := h4 e (by simpa using he) hb
    rw [het] at this
    have h5 := h2 q hq1 (by omega)
    have hsz : q < listed.size := by omega
    simp [Array.getD, hsz] at this h5
    rw [h5] at this; cases this
   ·exact ⟨by omega, by omega⟩
  ·rintro ⟨rfl, hi⟩
   have ho : l[i]? = some l[i] := List.getElem?_eq_getElem hi
   refine ⟨h2 i (Nat.le_refl _) hi, l[i], by simp, ?_⟩
   intro e he hb
   have : e.on ∈ prs l[i] := by
    simp only [prs, List.mem_map, List.mem_filter]
    exact ⟨e, ⟨by simpa using he, hb⟩, rfl⟩
   have hlt := (hall i l[i] ht ho).2 _ this
   exact h1 _ hlt (by omega)
 intro fuel
 induction fuel with
 | zero =>
  intro t listed a w ht hf hs h1 h2 hrg
  have hd : l.drop t = [] := List.drop_eq_nil_of_le (by omega)
  rw [hd] at hrg
  refine ⟨?_, hrg⟩
  apply List.eq_nil_iff_forall_not_mem.2
  intro i hi
  have := (hrdy t listed ht hs h1 h2 i).1 hi
  omega
 | succ fuel ih =>
  intro t listed a w ht hf hs h1 h2 hrg
  refine ⟨?_, ?_⟩
  ·intro hr
   rcases Nat.lt_or_ge t l.length with h | h
   ·have := (hrdy t listed ht hs h1 h2 t).2 ⟨rfl, h⟩
    rw [hr] at this; simp at this
   ·have hd : l.drop t = [] := List.drop_eq_nil_of_le h
    rw [hd] at hrg
    exact hrg
  ·intro i hi
   obtain ⟨rfl, hlt⟩ := (hrdy t listed ht hs h1 h2 i).1 hi
   have ho : ops[i]? = some l[i] := by rw [hops]; simp [hlt]
   have hd : l.drop i = l[i] :: l.drop (i + 1) := List.drop_eq_getElem_cons hlt
   rw [hd] at hrg
   have hset : ∀ a' w', wpListIn F N P ops Q (l.drop (i + 1)) a' w' → wpAnyIn F N P .any ops Q fuel (listed.setIfInBounds i true) a' w' := by
    intro a' w' h4
    refine ih (i + 1) _ a' w' (by omega) (by omega) (by simpa using hs) ?_ ?_ h4
    ·intro j hj hjl
     by_cases e : j = i
     ·subst e
      have : j < (listed.setIfInBounds j true).size := by simp; omega
      have h5 : j < listed.size := by omega
      simp [Array.getD, h5]
     ·rw [getD_set_ne false (fun h => e h.symm)]; exact h1 j (by omega) hjl
    ·intro j hj hjl
     rw [getD_set_ne true (by omega)]; exact h2 j (by omega) hjl
   unfold wpListIn at hrg
   simp only [wpOpIn, ho]
   split at hrg
   ·rename_i hw
    rw [if_pos hw]
    exact Oper.wpIn_mono hset hrg
   ·rename_i hw
    rw [if_neg hw]
    exact ⟨hrg.1, hset _ _ hrg.2⟩
def unl (m0 : Nat) (listed : Array Bool) : List Nat := (List.range m0).filter fun i => !listed.getD i true
theorem unl_set {listed : Array Bool} {i : Nat} (hi : i < m0) (hs : i < listed.size) (hu : listed.getD i true = false) : (unl m0 (listed.setIfInBounds i true)).length < (unl m0 listed).length := by
 have e : unl m0 (listed.setIfInBounds i true) = (unl m0 listed).filter fun j => !(j == i) := by
  unfold unl
  rw [List.filter_filter]
  apply List.filter_congr
  intro j _
  by_cases e : j = i
  ·subst e; simp [Array.getD, hs]
  ·rw [getD_set_ne true (fun h => e h.symm)]; simp [e]
 rw [e]
 rw [List.length_filter_lt_length_iff_exists]
 exact ⟨i, by unfold unl; rw [List.mem_filter]; exact ⟨by simpa using hi, by rw [hu]; rfl⟩, by simp⟩
theorem OblL.get {posts : List Post} : ∀ (q : List Oper) (i : Nat), OblL β P l posts fr w q i → ∀ (j : Nat) (o : Oper), q[j]? = some o →
  ∀ w', Ext β w w' → bindP (predP l posts o) fr w' fun fr' => OpS β P l.toArray o fr' w' ((posts[i + j]?).getD (peq undef))
 | [], _, _, j, o, h => by simp at h
 | a :: r, i, h, 0, o, e => by simp at e; subst e; exact h.1
 | a :: r, i, h, j + 1, o, e => by
  have := OblL.get r (i + 1) h.2 j o (by simpa using e)
  rwa [show i + 1 + j = i + (j + 1) from by omega] at this
theorem Q3 {id : Nat} (posts : List Post) (m0 : Nat) (hm : P.follows .mixedOrders = true) (hst : drawOk n l m0 = true) (hlen : posts.length = m0) (stab : StableL posts)
  (ob : OblL β P l posts fr w (l.take m0) 0)
  (fin : ∀ w', Ext β w w' → bindP (finL l posts m0) fr w' fun fr' => Rg rd P n l.toArray (l.drop m0) K fr' w') : W rd P n (.region id l.toArray true) K E R fr w := by
 intro N a ha
 simp only [drawOk, Bool.and_eq_true, List.all_eq_true, List.mem_range, Nat.ble_eq] at hst
 obtain ⟨⟨⟨hs1, hs2⟩, hs3⟩, hml⟩ := hst
 have hpre : ∀ i, i < m0 → ∃ o d, l[i]? = some o ∧ o.dst = some d ∧ d < n ∧ (∀ j, j < i → dsl l j ≠ d) ∧ hasSel o.op = false ∧ (∀ s ∈ looks l o, ∀ j, j < m0 → dsl l j = s → j ∈ prs o) := by
  intro i hi
  have h := hs1 i hi
  cases ho : l[i]? with
  | none => simp [ho] at h
  | some o =>
   simp only [ho] at h
   cases hd : o.dst with
   | none => simp [hd] at h
   | some d =>
    simp only [hd, Bool.and_eq_true, List.all_eq_true, Nat.blt_eq, Bool.or_eq_true, Bool.not_eq_true', List.mem_range] at h
    obtain ⟨⟨⟨⟨h1, h2⟩, _⟩, h4⟩, h5⟩ := h
    refine ⟨o, d, rfl, hd, h1, ?_, by simpa using h4, ?_⟩
    ·intro j hj e
     have := h2 j hj
     rw [e, Nat.beq_refl] at this; cases this
    ·intro s hs j hj e
     rcases h5 s hs j hj with h | h
     ·rw [e, Nat.beq_refl] at h; cases h
     ·simpa using h
 have hlt3 : ∀ i o, l[i]? = some o → ∀ j ∈ prs o, j < i := by
  intro i o ho j hj
  have hi := (List.getElem?_eq_some_iff.1 ho).1
  have h := hs3 i hi
  simp only [ho, List.all_eq_true, Nat.blt_eq] at h
  exact h j hj
 have htail : ∀ i o, m0 ≤ i → l[i]? = some o → ((∀ j, j < i → j ∈ prs o) ∨ (m0 < i ∧ i - 1 ∈ prs o)) ∧ (∀ j ∈ prs o, j < i) := by
  intro i o hi ho
  refine ⟨?_, hlt3 i o ho⟩
  have hil := (List.getElem?_eq_some_iff.1 ho).1
  have h := hs2 i hil
  rw [Bool.or_eq_true] at h
  rcases h with h | h
  ·have : i < m0 := by simpa using h
   omega
  ·simp only [ho, List.all_eq_true, List.mem_range, Bool.or_eq_true, Bool.and_eq_true, Nat.blt_eq] at h
   rcases h with h | h
   ·exact .inl fun j hj => by simpa using h j hj
   ·exact .inr ⟨h.1, by simpa using h.2⟩
 have hdd : ∀ i j, i < m0 → j < m0 → dsl l i = dsl l j → i = j := by
  intro i j hi hj e
  obtain ⟨o, d, ho, hd, _, h4, _⟩ := hpre i hi
  obtain ⟨o', d', ho', hd', _, h4', _⟩ := hpre j hj
  have e1 : dsl l i = d := by simp [dsl, ho, hd]
  have e2 : dsl l j = d' := by simp [dsl, ho', hd']
  rcases Nat.lt_trichotomy i j with h | h | h
  ·exact absurd (e.trans e2) (h4' i h)
  ·exact h
  ·exact absurd (e.symm.trans e1) (h4 j h)
 let pj : Nat → Post := fun j => (posts[j]?).getD (peq undef)
 have hstab : ∀ j, Stable (pj j) := by
  intro j
  cases h : posts[j]? with
  | none => simp only [pj, h, Option.getD_none]; exact Qd _
  | some p => simp only [pj, h, Option.getD_some]; exact stab.get j p h
 have key : ∀ (fuel : Nat) (listed : Array Bool) (a : Act) (w' : World), (unl m0 listed).length + (l.length - m0) ≤ fuel → listed.size = l.length → (∀ j, m0 ≤ j → j < l.length → listed.getD j true = false) →
   a.defers = fr.ds → a.tmps.size = n → Ext β w w' → (∀ j, j < m0 → listed.getD j false = true → pj j (frOf a (dsl l j)) w') → (∀ s, (∀ j, j < m0 → dsl l j ≠ s) → frOf a s = fr s) →
   wpAnyIn (Fw rd) N P .any l.toArray (post n K E R) fuel listed a w' := by
  intro fuel
  induction fuel with
  | zero =>
   intro listed a w' hf hsz htl hd hn hx hp hoff
   have hu : unl m0 listed = [] := List.eq_nil_of_length_eq_zero (by omega)
   have hall : ∀ j, j < m0 → listed.getD j false = true := by
    intro j hj
    have : j ∉ unl m0 listed := by rw [hu]; simp
    simp only [unl, List.mem_filter, List.mem_range, hj, true_and, Bool.not_eq_true', Bool.not_eq_false] at this
    have h5 : j < listed.size := by omega
    simpa [Array.getD, h5] using this
   obtain ⟨fr', h1, hds, h2, h3⟩ := YC _ fr (frOf a) w' _ (fin w' hx) (by
    intro p hpm
    simp only [finL, List.mem_map, List.mem_range] at hpm
    obtain ⟨j, hj, rfl⟩ := hpm
    exact hp j hj (hall j hj))
   have efr : fr' = frOf a := by
    refine Fr.ext' (fun s => ?_) (hds.trans hd.symm)
    by_cases hs : ∃ p ∈ finL l posts m0, p.1 = s
    ·exact h2 s hs
    ·rw [h3 s (fun p hp e => hs ⟨p, hp, e⟩)]
     refine (hoff s fun j hj e => hs ⟨(dsl l j, pj j), ?_, e⟩).symm
     simp only [finL, List.mem_map, List.mem_range]
     exact ⟨j, hj, rfl⟩
   subst efr
   exact Va (m0 := m0) rfl (fun i o hi ho => ⟨(htail i o hi ho).1.imp_right .inl, (htail i o hi ho).2⟩) 0 m0 listed a w' (Nat.le_refl _) (by omega) hsz (fun j hj _ => hall j hj) (fun j hj hjl => htl j hj hjl) (h1 N _ (fun a' fr' w'' i1 i2 => ⟨fr', i1, i2⟩) a ⟨hn, rfl⟩)
  | succ fuel ih =>
   intro listed a w' hf hsz htl hd hn hx hp hoff
   by_cases hu : unl m0 listed = []
   ·have hall : ∀ j, j < m0 → listed.getD j false = true := by
     intro j hj
     have : j ∉ unl m0 listed := by rw [hu]; simp
     simp only [unl, List.mem_filter, List.mem_range, hj, true_and, Bool.not_eq_true', Bool.not_eq_false] at this
     have h5 : j < listed.size := by omega
     simpa [Array.getD, h5] using this
    obtain ⟨fr', h1, hds, h2, h3⟩ := YC _ fr (frOf a) w' _ (fin w' hx) (by
     intro p hpm
     simp only [finL, List.mem_map, List.mem_range] at hpm
     obtain ⟨j, hj, rfl⟩ := hpm
     exact hp j hj (hall j hj))
    have efr : fr' = frOf a := by
     refine Fr.ext' (fun s => ?_) (hds.trans hd.symm)
     by_cases hs : ∃ p ∈ finL l posts m0, p.1 = s
     ·exact h2 s hs
     ·rw [h3 s (fun p hp e => hs ⟨p, hp, e⟩)]
      refine (hoff s fun j hj e => hs ⟨(dsl l j, pj j), ?_, e⟩).symm
      simp only [finL, List.mem_map, List.mem_range]
      exact ⟨j, hj, rfl⟩
    subst efr
    refine Va (m0 := m0) rfl (fun i o hi ho => ⟨(htail i o hi ho).1.imp_right .inl, (htail i o hi ho).2⟩) (fuel + 1) m0 listed a w' (Nat.le_refl _) (by rw [hu] at hf; simp at hf; omega) hsz (fun j hj _ => hall j hj) (fun j hj hjl => htl j hj hjl) ?_
    exact h1 N _ (fun a' fr' w'' i1 i2 => ⟨fr', i1, i2⟩) a ⟨hn, rfl⟩
   ·refine ⟨?_, ?_⟩
    ·-- the least that is not done is ready
     intro hr
     exfalso
     obtain ⟨i, hi, hleast⟩ : ∃ i, i ∈ unl m0 listed ∧ ∀ j, j ∈ unl m0 listed → i ≤ j := by
      obtain ⟨i, h1, h2⟩ := Jv (fun i => i ∈ unl m0 listed) (by
       cases hul : unl m0 listed with
       | nil => exact absurd hul hu
       | cons x xs => exact ⟨x, by simp⟩)
      exact ⟨i, h1, h2⟩
     have hi' := hi
     simp only [unl, List.mem_filter, List.mem_range, Bool.not_eq_true'] at hi'
     have hil : i < l.length := by omega
     have : i ∈ Region.ready .any l.toArray listed := by
      rw [mem_ready]
      refine ⟨hi'.2, l[i], by simp [hil], ?_⟩
      intro e he hb
      have hp1 : e.on ∈ prs l[i] := by
       simp only [prs, List.mem_map, List.mem_filter]
       exact ⟨e, ⟨by simpa using he, hb⟩, rfl⟩
      have hlt := hlt3 i l[i] (List.getElem?_eq_getElem hil) _ hp1
      have hnot : e.on ∉ unl m0 listed := fun h => by have := hleast _ h; omega
      simp only [unl, List.mem_filter, List.mem_range, not_and, Bool.not_eq_true', Bool.not_eq_false] at hnot
      have := hnot (by omega)
      have h5 : e.on < listed.size := by omega
      simpa [Array.getD, h5] using this
     rw [hr] at this; simp at this
    ·intro i hi
     rw [mem_ready] at hi
     obtain ⟨hiu, o, ho, hpr⟩ := hi
     have ho' : l[i]? = some o := by simpa using ho
     have hil : i < l.length := (List.getElem?_eq_some_iff.1 ho').1
     have hprs : ∀ j ∈ prs o, listed.getD j false = true := by
      intro j hj
      simp only [prs, List.mem_map, List.mem_filter] at hj
      obtain ⟨e, ⟨he, hb⟩, rfl⟩ := hj
      exact hpr e (by simpa using he) hb
     have him : i < m0 := by
      rcases Nat.lt_or_ge i m0 with h | h
      ·exact h
      ·exfalso
       cases hul : unl m0 listed with
       | nil => exact hu hul
       | cons x xs =>
        have hx' : x ∈ unl m0 listed := by rw [hul]; simp
        simp only [unl, List.mem_filter, List.mem_range, Bool.not_eq_true'] at hx'
        rcases (htail i o h ho').1 with hq | ⟨hq1, hq2⟩
        ·have := hprs x (hq x (by omega))
         have h5 : x < listed.size := by omega
         simp [Array.getD, h5] at this hx'
         rw [this] at hx'; simp at hx'
        ·have := hprs _ hq2
         have h6 := htl (i - 1) (by omega) (by omega)
         have h5 : i - 1 < listed.size := by omega
         simp [Array.getD, h5] at this h6
         rw [this] at h6; simp at h6
     obtain ⟨o2, d, ho2, hdst, hdn, _, hsel, hlooks⟩ := hpre i him
     rw [ho'] at ho2
     obtain rfl : o = o2 := by simpa using ho2
     have hdsl : dsl l i = d := by simp [dsl, ho', hdst]
     have hb := OblL.get (l.take m0) 0 ob i o (by rw [List.getElem?_take]; simp [him, ho']) w' hx
     rw [Nat.zero_add] at hb
     have hprlt : ∀ j ∈ prs o, j < i := hlt3 i o ho'
     obtain ⟨fr', h1, hds, h2, h3⟩ := YC _ fr (frOf a) w' _ hb (by
      intro p hpm
      simp only [predP, List.mem_map] at hpm
      obtain ⟨j, hj, rfl⟩ := hpm
      exact hp j (by have := hprlt j hj; omega) (hprs j hj))
     -- the frame that the obligation speaks of agrees on all that o looks at
     have hag : ∀ s ∈ looks l o, fr' s = frOf a s := by
      intro s hs
      by_cases hin : ∃ p ∈ predP l posts o, p.1 = s
      ·exact h2 s hin
      ·rw [h3 s (fun p hp e => hin ⟨p, hp, e⟩)]
       refine (hoff s fun j hj e => hin ⟨(dsl l j, pj j), ?_, e⟩).symm
       simp only [predP, List.mem_map]
       exact ⟨j, hlooks s hs j hj e, rfl⟩
     have heq : execOp a.eval o = execOp (ev fr') o := by
      refine execOp_congr o (by
       intro cs b e
       rw [e] at hsel; cases hsel) ?_
      intro x hx
      cases x with
      | tmp s =>
       have : s ∈ looks l o := by
        simp only [looks, Oper.looksAt, List.mem_append, List.mem_filterMap]
        exact .inl ⟨.tmp s, by simpa using hx, rfl⟩
       exact (hag s this).symm
      | _ => rfl
     have hwt : Region.wanted o (yielded l.toArray a.tmps) = Region.wanted o (yF l.toArray fr') := by
      unfold Region.wanted
      cases hg : o.guard with
      | none => rfl
      | some p =>
       obtain ⟨gj, gb⟩ := p
       simp only [yF_eq]
       unfold yF
       cases hgd : (l.toArray[gj]?).bind (·.dst) with
       | none => rfl
       | some s =>
        have : s ∈ looks l o := by
         simp only [looks, Oper.looksAt, List.mem_append, hg]
         right; rw [hgd]; simp
        simp only [hag s this]
     have hnext : ∀ v w'', Ext β w' w'' → pj i v w'' → wpAnyIn (Fw rd) N P .any l.toArray (post n K E R) fuel (listed.setIfInBounds i true) (a.put o.dst v) w'' := by
      intro v w'' hx2 hpv
      have his : Is (a.put o.dst v) n ((frOf a).put o.dst v) := J4 ⟨hn, rfl⟩ (by rw [hdst]; simpa [dstOk, Nat.blt_eq] using hdn) v
      refine ih _ _ _ ?_ (by simpa using hsz) ?_ ((show (a.put o.dst v).defers = a.defers by cases o.dst <;> rfl).trans hd) his.sz (hx.tr hx2) ?_ ?_
      ·have := unl_set (m0 := m0) him (by omega) hiu; omega
      ·intro j hj hjl
       rw [getD_set_ne true (by omega)]; exact htl j hj hjl
      ·intro j hj hl2
       rw [his.fr, hdst]
       simp only [Fr.put]
       by_cases e : j = i
       ·subst e; rw [hdsl, Yj]; exact hpv
       ·rw [JF (fun h => e (hdd j i hj him (h.trans hdsl.symm)))]
        rw [getD_set_ne false (fun h => e h.symm)] at hl2
        exact hstab j _ _ _ (hp j hj hl2) hx2.weak
      ·intro s hs
       rw [his.fr, hdst]
       simp only [Fr.put]
       rw [JF (fun h => hs i him (by rw [hdsl]; exact h.symm))]
       exact hoff s hs
     simp only [wpOpIn, ho, hwt]
     rcases h1 with ⟨hw, h1⟩ | ⟨hw, h1⟩
     ·rw [if_pos hw]
      unfold Oper.wpIn
      refine ⟨fun _ _ => trivial, ?_⟩
      rw [show (Fw rd).round = rd from rfl]
      rw [← heq] at h1
      rcases h1 with ⟨v, w'', hr, hx2, hS⟩ | ⟨f, args, w0, hr, hok⟩
      ·rw [Z4 hr (fun _ e => by cases e)]; exact hnext v w'' hx2 hS
      ·rw [Z4 hr (fun _ e => by cases e)]
       refine ⟨fun e => (by cases e), J5 (Calls.mono hok ?_)⟩
       rintro e w'' ⟨v, rfl, hx2, hS⟩
       exact hnext v w'' hx2 hS
     ·rw [hw]
      exact ⟨fun _ _ => trivial, hnext undef w' (Ext.rfl' w') h1⟩
 have hx0 : Ext β w { w with drawn := w.drawn + 1 } := Ext.drew w
 refine wpIn_region_any hm (key _ _ a _ ?_ (by simp) ?_ ha.df ha.sz hx0 ?_ ?_)
 ·have : (unl m0 (Array.replicate l.toArray.size false)).length ≤ m0 := by
   unfold unl; exact Nat.le_trans (List.length_filter_le _ _) (by simp)
  simp at this ⊢; omega
 ·intro j _ hj; simp [Array.getD, hj]
 ·intro j hj h
  have hjl : j < l.length := by omega
  simp [Array.getD, hjl] at h
 ·intro s _; rw [ha.fr]
theorem Qg {posts : List Post} {o : Oper} {r : List Oper} {i : Nat} (h : ∀ w', Ext β w w' → bindP (predP l posts o) fr w' fun fr' => OpS β P l.toArray o fr' w' ((posts[i]?).getD (peq undef))) (k : OblL β P l posts fr w r (i + 1)) : OblL β P l posts fr w (o :: r) i := ⟨h, k⟩
theorem QR {posts : List Post} {i : Nat} : OblL β P l posts fr w [] i := trivial
theorem Qa {d : Nat} {V : Value} {r : List (Nat × Post)} {F : Fr → Prop} (h : bindP r (fr.set d V) w F) : bindP ((d, peq V) :: r) fr w F := by
 intro v hv
 cases hv
 exact h
theorem QQ {d : Nat} {p : Post} {r : List (Nat × Post)} {F : Fr → Prop} (h : ∀ v, p v w → bindP r (fr.set d v) w F) : bindP ((d, p) :: r) fr w F := h
theorem Qe {F : Fr → Prop} (h : F fr) : bindP [] fr w F := h
theorem yF_of {ops : Array Oper} {i g : Nat} {b : Bool} (hi : (ops[i]?).bind (·.dst) = some g) (hb : fr g = .bool b) : yF ops fr i = some b := by
 unfold yF; rw [hi]; simp only [hb]
theorem yF_no {ops : Array Oper} {i g : Nat} (hi : (ops[i]?).bind (·.dst) = some g) (hb : fr g = undef) : yF ops fr i = none := by
 unfold yF; rw [hi]; simp only [hb, undef]
section
variable {ops : Array Oper} {o : Oper} {d : Option Nat} {op : Op} {ty : TypeId} {pos : String} {after : Array Edge} {v : Value} {f : FuncId} {args : Array Value} {b c oc : Bool}
theorem Qn (hg : o.guard = none) (h : xop P fr w o = .ok (.value v) w) : OpS β P ops o fr w (peq v) :=
 .inl ⟨by simp [Region.wanted, hg], .inl ⟨v, w, h, Ext.rfl' w, rfl⟩⟩
theorem Zj (hg : o.guard = none) (h : xop P fr w o = .ok (.enter f args) w) (hk : Ok P f args w fun v' w' => v' = v ∧ Ext β w w') : OpS β P ops o fr w (peq v) :=
 .inl ⟨by simp [Region.wanted, hg], .inr ⟨f, args, w, h, hk.mono fun _ _ ⟨a, b⟩ => ⟨b, a⟩⟩⟩
theorem ZK {S : Post} (hg : o.guard = none) (h : xop P fr w o = .ok (.enter f args) w) (hk : Ok P f args w fun v' w' => Ext β w w' ∧ S v' w') : OpS β P ops o fr w S :=
 .inl ⟨by simp [Region.wanted, hg], .inr ⟨f, args, w, h, hk⟩⟩
theorem Q1 {S : Post} (i g : Nat) (hi : (ops[i]?).bind (·.dst) = some g) (hc : fr g = .bool b) (h : OpS β P ops ⟨d, op, ty, pos, after, none⟩ fr w S) : OpS β P ops ⟨d, op, ty, pos, after, some (i, b)⟩ fr w S := by
 rcases h with ⟨_, h2⟩ | ⟨h1, _⟩
 ·exact .inl ⟨by simp only [Region.wanted, yF_of hi hc]; simp, h2⟩
 ·simp [Region.wanted] at h1
theorem Zd (i g : Nat) (hi : (ops[i]?).bind (·.dst) = some g) (hc : fr g = .bool c) (hne : (c == b) = false) : OpS β P ops ⟨d, op, ty, pos, after, some (i, b)⟩ fr w (peq undef) :=
 .inr ⟨by simp only [Region.wanted, yF_of hi hc]; cases c <;> cases b <;> simp_all, rfl⟩
theorem Zs (i g : Nat) (hi : (ops[i]?).bind (·.dst) = some g) (hc : fr g = .bool c) (h : (c == b) = true → xop P fr w ⟨d, op, ty, pos, after, none⟩ = .ok (.value v) w) :
  OpS β P ops ⟨d, op, ty, pos, after, some (i, b)⟩ fr w (peq (bif c == b then v else undef)) := by
 cases hcb : (c == b) with
 | true => exact .inl ⟨by simp only [Region.wanted, yF_of hi hc]; simpa using hcb, .inl ⟨v, w, h hcb, Ext.rfl' w, rfl⟩⟩
 | false => exact .inr ⟨by simp only [Region.wanted, yF_of hi hc]; cases c <;> cases b <;> simp_all, rfl⟩
theorem Yo (i g : Nat) (hi : (ops[i]?).bind (·.dst) = some g) (hc : fr g = (bif oc then .bool c else undef)) (h : (oc && (c == b)) = true → xop P fr w ⟨d, op, ty, pos, after, none⟩ = .ok (.value v) w) :
  OpS β P ops ⟨d, op, ty, pos, after, some (i, b)⟩ fr w (peq (bif oc && (c == b) then v else undef)) := by
 cases oc with
 | true => simpa using Zs (v := v) i g hi hc (by simpa using h)
 | false => exact .inr ⟨by simp only [Region.wanted, yF_no hi hc]; rfl, rfl⟩
theorem Yp (i g : Nat) (hi : (ops[i]?).bind (·.dst) = some g) (hc : fr g = .bool c)
  (h : (c == b) = true → xop P fr w ⟨d, op, ty, pos, after, none⟩ = .ok (.enter f args) w ∧ Ok P f args w fun v' w' => v' = v ∧ Ext β w w') :
  OpS β P ops ⟨d, op, ty, pos, after, some (i, b)⟩ fr w (peq (bif c == b then v else undef)) := by
 cases hcb : (c == b) with
 | true =>
  obtain ⟨h1, h2⟩ := h hcb
  exact .inl ⟨by simp only [Region.wanted, yF_of hi hc]; simpa using hcb, .inr ⟨f, args, w, h1, h2.mono fun _ _ ⟨a, b⟩ => ⟨b, a⟩⟩⟩
 | false => exact .inr ⟨by simp only [Region.wanted, yF_of hi hc]; cases c <;> cases b <;> simp_all, rfl⟩
theorem OpS_mayCall2 (i g : Nat) (hi : (ops[i]?).bind (·.dst) = some g) (hc : fr g = (bif oc then .bool c else undef))
  (h : (oc && (c == b)) = true → xop P fr w ⟨d, op, ty, pos, after, none⟩ = .ok (.enter f args) w ∧ Ok P f args w fun v' w' => v' = v ∧ Ext β w w') :
  OpS β P ops ⟨d, op, ty, pos, after, some (i, b)⟩ fr w (peq (bif oc && (c == b) then v else undef)) := by
 cases oc with
 | true => simpa using Yp (v := v) i g hi hc (by simpa using h)
 | false => exact .inr ⟨by simp only [Region.wanted, yF_no hi hc]; rfl, rfl⟩
end
end
end Go.Lx
/- Blocks of the call's own that are written: a variable whose address is taken. Nothing of a program stands here. -/
namespace Go.Lx
open Go Go.RowKit
def Box (w : World) (b : Nat) (T : TypeId) (cs : List Value) : Prop := w.heap[b]? = some (.cells cs.toArray T (0, 0))
theorem Box.lt {w : World} {b : Nat} {T : TypeId} {cs : List Value} (h : Box w b T cs) : b < w.heap.size := (Array.getElem?_eq_some_iff.1 h).1
theorem Box.keep {γ : Prop} {D : Nat → Prop} {w w' : World} {b : Nat} {T : TypeId} {cs : List Value} (h : Box w b T cs) (x : Bel γ D w w') (hd : ¬ D b) : Box w' b T cs := by
 unfold Box; rw [x.block b h.lt hd]; exact h
theorem Box.ext {γ : Prop} {w w' : World} {b : Nat} {T : TypeId} {cs : List Value} (h : Box w b T cs) (x : Ext γ w w') : Box w' b T cs := h.keep x id
theorem Box.at {w : World} {b : Nat} {T : TypeId} {cs : List Value} (h : Box w b T cs) : At w b 0 cs := by
 intro i v hi
 simp only [World.cell?, Nat.zero_add]
 rw [h]
 simpa using hi
theorem Box.alloc (w : World) (cs : Array Value) (T : TypeId) : Box (w.alloc (.cells cs T)) w.heap.size T cs.toList := by
 unfold Box; rw [Array.toArray_toList]; exact heap_alloc_new w _
abbrev Only (b : Nat) : Nat → Prop := fun g => g = b
section
variable {rd : Option Nat} {P : Program} {n : Nat} {K : Fr → World → Prop} {fr : Fr} {w : World}
theorem QH {ops : Array Oper} {d : Option Nat} {op : Op} {ty : TypeId} {pos : String} {af : Array Edge} {rest : List Oper} {cs : Array Value} {T : TypeId} (hd : dstOk n d = true)
  (h : (execOp (ev fr) ⟨d, op, ty, pos, af, none⟩).run P w = .ok (.value (.pointer (some ⟨w.heap.size, 0, none⟩))) (w.alloc (.cells cs T)))
  (hk : ∀ b w', Ext True w w' → w.heap.size ≤ b → Box w' b T cs.toList → Rg rd P n ops rest K (fr.put d (.pointer (some ⟨b, 0, none⟩))) w') : Rg rd P n ops (⟨d, op, ty, pos, af, none⟩ :: rest) K fr w :=
 ZX hd h (hk _ _ (Ext.alloc _ _) (Nat.le_refl _) (Box.alloc w cs T))
def splice (cs : List Value) (off : Nat) (vs : List Value) : List Value := cs.take off ++ vs ++ cs.drop (off + vs.length)
def oneL : List Value → Bool
 | [] => true
 | v :: r => v.oneCell' && oneL r
theorem oneL.mem : ∀ {l : List Value}, oneL l = true → ∀ v ∈ l, v.oneCell' = true
 | [], _, v, hv => by simp at hv
 | u :: r, h, v, hv => by
  simp only [oneL, Bool.and_eq_true] at h
  rcases List.mem_cons.1 hv with rfl | hv
  ·exact h.1
  ·exact oneL.mem h.2 v hv
theorem Q6 {ops : Array Oper} {rest : List Oper} {d : Option Nat} {ty : TypeId} {pos : String} {af : Array Edge} {U T : TypeId} {x y : Operand} {b off k : Nat} {cs : List Value} {v : Value}
  (hd : dstOk n d = true) (hs : ∀ w, (sizeOf U).run P w = .ok k w) (hx : ev fr x = .pointer (some ⟨b, off, none⟩)) (hy : ev fr y = v) (hb : Box w b T cs) (hv : v.cells.toList.length = k) (h1 : oneL v.cells.toList = true) (hle : Nat.ble (off + v.cells.toList.length) cs.length = true)
  (hk : ∀ w', Bel True (Only b) w w' → Box w' b T (splice cs off v.cells.toList) → Rg rd P n ops rest K (fr.put d undef) w') : Rg rd P n ops (⟨d, .store U x y, ty, pos, af, none⟩ :: rest) K fr w := by
 have hst := run_storeCells_at (P := P) b off T v.cells.toList 0 cs.toArray w hb (by simpa using hle) (oneL.mem h1)
 simp only [Nat.add_zero] at hst
 have hsz : v.cells.size = k := by rw [← Array.length_toList]; exact hv
 refine Rg_skip hd (w' := w.setRow b (cs.toArray.toList.take off ++ v.cells.toList ++ cs.toArray.toList.drop (off + v.cells.toList.length)).toArray) ?_ (hk _ ?_ ?_)
 ·simp only [execOp, hx, hy, Instr.storeAt, Instr.sureAddr, storeVar, Sem.run_bind, Sem.run_pure, Result.andThen_ok, hs]
  simp [hsz, hst]
 ·exact ⟨rfl, rfl, rfl, by simp, fun j _ hj => setRow_other w b j _ hj, fun _ => Nat.le_refl _⟩
 ·exact setRow_heap w b cs.toArray _ T _ hb
theorem QS {ops : Array Oper} {rest : List Oper} {d : Option Nat} {ty : TypeId} {pos : String} {af : Array Edge} {U T : TypeId} {x y : Operand} {b k : Nat} {cs : List Value} {v : Value}
  (hd : dstOk n d = true) (hs : ∀ w, (sizeOf U).run P w = .ok k w) (hx : ev fr x = .pointer (some ⟨b, 0, none⟩)) (hy : ev fr y = v) (hb : Box w b T cs) (hv : v.cells.toList.length = k) (h1 : oneL v.cells.toList = true) (hle : v.cells.toList.length = cs.length)
  (hk : ∀ w', Bel True (Only b) w w' → Box w' b T v.cells.toList → Rg rd P n ops rest K (fr.put d undef) w') : Rg rd P n ops (⟨d, .store U x y, ty, pos, af, none⟩ :: rest) K fr w := by
 refine Q6 hd hs hx hy hb hv h1 (by rw [hle]; simp) fun w' c h => hk w' c ?_
 have e2 : splice cs 0 v.cells.toList = v.cells.toList := by
  unfold splice
  rw [List.take_zero, List.nil_append, Nat.zero_add, List.drop_of_length_le (by rw [hle]; exact Nat.le_refl _), List.append_nil]
 rwa [e2] at h
theorem Zk {ops : Array Oper} {rest : List Oper} {d : Nat} {e : Option Nat} {ty ty' : TypeId} {pos pos' : String} {af af' : Array Edge} {T U : TypeId} {y : Operand} {k : Nat} {v z : Value}
  (hd : dstOk n (some d) = true) (he : dstOk n e = true) (hz : ∀ w, (zeroValue T).run P w = .ok z w) (hzk : z.cells.toList.length = k) (hs : ∀ w, (sizeOf U).run P w = .ok k w) (hy : ∀ p, ev (fr.put (some d) p) y = v) (hv : v.cells.toList.length = k) (h1 : oneL v.cells.toList = true)
  (hk : ∀ b w', Ext True w w' → w.heap.size ≤ b → Box w' b T v.cells.toList → Rg rd P n ops rest K ((fr.put (some d) (.pointer (some ⟨b, 0, none⟩))).put e undef) w') :
  Rg rd P n ops (⟨some d, .alloc T, ty, pos, af, none⟩ :: ⟨e, .store U (.tmp d) y, ty', pos', af', none⟩ :: rest) K fr w := by
 refine QH hd (Q4 hz) fun b w1 x1 hb1 h => ?_
 have hx : ev (fr.put (some d) (.pointer (some ⟨b, 0, none⟩))) (.tmp d) = .pointer (some ⟨b, 0, none⟩) := by
  show Fr.set _ _ _ _ = _
  exact Yj
 refine Q6 (k := k) he hs hx (hy _) h hv h1 (by rw [hv, hzk]; simp) fun w2 c h2 => ?_
 refine hk b w2 (Bel.out x1 c fun g hg e => by simp only [Only] at e; omega) hb1 ?_
 have e2 : splice z.cells.toList 0 v.cells.toList = v.cells.toList := by
  unfold splice
  rw [List.take_zero, List.nil_append, Nat.zero_add, List.drop_of_length_le (by rw [hv, hzk]; exact Nat.le_refl _), List.append_nil]
 rw [e2] at h2
 exact h2
end
end Go.Lx
/- Cuts of slices that are read; calls of what has no body. Nothing of a program stands here. -/
namespace Go.Lx
open Go Go.RowKit
section
variable {α : Type} {enc : α → List Value} {k : Nat} {F : Nat → Prop} {w w' : World} {a : Option Addr} {c : Nat} {l : List α}
theorem Sl.take (h : Sl enc k F w a c l) (j : Nat) : Sl enc k F w a c (l.take j) :=
 ⟨by rw [List.length_take]; have := h.le; omega, h.cap, h.nil, fun i x hi => h.el i x (by
  rw [List.getElem?_take] at hi
  split at hi
  ·exact hi
  ·cases hi)⟩
theorem Sl.drop {j : Nat} (h : Sl enc k F w a c l) (hj : j ≤ l.length) : Sl enc k F w (if c = j then a else elp a (j * k)) (c - j) (l.drop j) := by
 refine ⟨by rw [List.length_drop]; have := h.le; omega, by have := h.cap; omega, ?_, ?_⟩
 ·intro ha
  split at ha
  ·omega
  ·have : a = Option.none := by cases a with
    | none => rfl
    | some _ => simp [elp] at ha
   rw [h.nil this]; omega
 ·intro i x hi
  rw [List.getElem?_drop] at hi
  obtain ⟨b, off, rfl, h2, h3, h4⟩ := h.el (j + i) x hi
  have hlt := (List.getElem?_eq_some_iff.1 hi).1
  have hc : c ≠ j := by have := h.le; omega
  rw [if_neg hc, ZY]
  exact ⟨b, off + j * k, rfl, h2, by rw [show off + j * k + i * k = off + (j + i) * k from by rw [Nat.add_mul]; omega]; exact h3, h4⟩
end
theorem Own.capOf {α : Type} {enc : α → List Value} {k m c : Nat} {D : Nat → Prop} {e : TypeId} {w : World} {a : Option Addr} {l : List α} (ho : Own enc k e D w (.slice a m c) l) : m ≤ c ∧ m = l.length := by
 rcases ho.row.2 with ⟨h1, h2⟩ | ⟨g', cap, cur, h1, _, _, h4, _⟩
 ·simp at h1; omega
 ·simp at h1; omega
section
variable {P : Program} {fr : Fr} {w : World} {d : Option Nat} {t : TypeId} {ps : String} {af : Array Edge} {g : Option (Nat × Bool)}
theorem o_minL {x y : Operand} {tys : Array TypeId} {a b : Int} (hx : ev fr x = .int .i64 a) (hy : ev fr y = .int .i64 b) (h : a ≤ b) :
  xop P fr w ⟨d, .call { callee := .builtin .min, args := #[x, y], argTypes := tys }, t, ps, af, g⟩ = .ok (.value (.int .i64 a)) w := by
 rw [o_min hx hy, if_neg (by omega)]
theorem ZE {P : Program} {α : Type} {enc : α → List Value} {k m c i : Nat} {D : Nat → Prop} {T e : TypeId} {a : Option Addr} {l : List α} {x y : Operand} {s : Nat} {K : IntKind} (hP : P.underlying T = some (.slice e)) (hs : ∀ w, (sizeOf e).run P w = .ok s w) (ho : Own enc k e D w (.slice a m c) l)
  (hx : ev fr x = .slice a m c) (hy : ev fr y = .int K (i : Int)) (hi : i < m) : xop P fr w ⟨d, .indexAddr T x y, t, ps, af, g⟩ = .ok (.value (.pointer (elp a (i * s)))) w := by
 rcases ho.row.2 with ⟨h1, h2⟩ | ⟨g', cap, cur, h1, _⟩
 ·simp at h1; omega
 ·simp at h1
  obtain ⟨rfl, _⟩ := h1
  rw [ZY]
  exact o_ia hP hs hx hy hi
end
section
variable {rd : Option Nat} {P : Program} {n : Nat} {K : Fr → World → Prop} {fr : Fr} {w : World} {α : Type} {enc : α → List Value} {k : Nat} {F : Nat → Prop} {a : Option Addr} {c : Nat} {l : List α} {T e : TypeId}
end
section
variable {P : Program} {fr : Fr} {w : World} {d : Option Nat} {t : TypeId} {ps : String} {af : Array Edge} {g : Option (Nat × Bool)}
theorem o_ext2 {f : FuncId} {x1 x2 : Operand} {v1 v2 v : Value} {tys : Array TypeId} (h1 : ev fr x1 = v1) (h2 : ev fr x2 = v2) (hc : (callFunc f #[v1, v2]).run P w = .ok (.value v) w) :
  xop P fr w ⟨d, .call { callee := .value (.func f), args := #[x1, x2], argTypes := tys }, t, ps, af, g⟩ = .ok (.value v) w := by
 subst h1 h2
 have e : ev fr (.func f) = .func (.func f) #[] #[] := rfl
 simp [xop, execOp, resolve, e, Deferred.ofValue, invoke, hc]
end
theorem Vb {α : Type} {enc : α → List Value} {k c : Nat} {F : Nat → Prop} {w : World} {a : Option Addr} {l : List α} (h : Sl enc k F w a c l) (e : a.isNone = true) : l = [] := by
 have h0 : a = none := by cases a with
  | none => rfl
  | some a => cases e
 have h1 := h.nil h0
 have h2 := h.le
 exact List.eq_nil_of_length_eq_zero (by omega)
theorem Sl.clip {α : Type} {enc : α → List Value} {k c : Nat} {F : Nat → Prop} {w : World} {a : Option Addr} {l : List α} (h : Sl enc k F w a c l) : Sl enc k F w a l.length l :=
 ⟨Nat.le_refl _, Nat.le_trans h.le h.cap, fun e => by have := h.nil e; have := h.le; omega, h.el⟩
theorem o_sl3 {P : Program} {fr : Fr} {w : World} {d : Option Nat} {t : TypeId} {ps : String} {af : Array Edge} {g : Option (Nat × Bool)} {T e : TypeId} {x y z : Operand} {a : Option Addr} {n c s j m : Nat} (hP : P.underlying T = some (.slice e)) (hs : ∀ w, (sizeOf e).run P w = .ok s w) (hx : ev fr x = .slice a n c) (hy : ev fr y = .int .i64 (j : Int)) (hz : ev fr z = .int .i64 (m : Int)) (h1 : j ≤ m) (h2 : m ≤ c) :
  xop P fr w ⟨d, .slice T x none (some y) (some z), t, ps, af, g⟩ = .ok (.value (.slice a j m)) w := by
 have e0 : (if m = 0 then a else a.map (·.add (0 * s))) = a := by
  by_cases h : m = 0
  ·rw [if_pos h]
  ·rw [if_neg h]; cases a with
   | none => rfl
   | some v => simp [Addr.add]
 simp [xop, execOp, hx, hy, hz, Instr.slice, Instr.sliceAt, Instr.sliceBounds, Instr.sliceBound, asIntOf, run_underlying hP, h1, h2, hs]
 intro _
 cases a <;> simp [Addr.add]
end Go.Lx
/- Own slices that are cut from the front and cleared. Nothing of a program stands here. -/
namespace Go.Lx
open Go Go.RowKit
section
variable {rd : Option Nat} {P : Program} {n : Nat} {K : Fr → World → Prop} {fr : Fr} {w : World} {α : Type} {enc : α → List Value} {k by_ : Nat} {D : Nat → Prop} {z : Value} {T e : TypeId} {l : List α} {a : Option Addr} {c m : Nat}
theorem Ya {d : Option Nat} {t : TypeId} {ps : String} {af : Array Edge} {g : Option (Nat × Bool)} {x y : Operand} {U : TypeId} {p b : Nat} (hx : ev fr x = .int .i64 (p : Int)) (hy : ev fr y = .int .i64 (b : Int)) (h : b ≤ p) (hp : (p : Int) ≤ 9223372036854775807) :
  xop P fr w ⟨d, .binOp .sub T x y U, t, ps, af, g⟩ = .ok (.value (.int .i64 ((p - b : Nat) : Int))) w := by
 rw [Yh hx hy (by unfold I64; omega), Int.ofNat_sub h]
theorem JZ {d : Option Nat} {t : TypeId} {ps : String} {af : Array Edge} {g : Option (Nat × Bool)} {x y : Operand} {s j : Nat} (hP : P.underlying T = some (.slice e)) (hs : ∀ w, (sizeOf e).run P w = .ok s w) (hx : ev fr x = .slice a m c) (hj : ev fr y = .int .i64 (j : Int)) (hl : j ≤ m) (hc : j < c) :
  xop P fr w ⟨d, .slice T x (some y) none none, t, ps, af, g⟩ = .ok (.value (.slice (elp a (j * s)) (m - j) (c - j))) w := by
 have h2 : (j : Int) ≤ m := by omega
 have h3 : ¬ c = j := by omega
 simp [xop, execOp, hx, hj, Instr.slice, Instr.sliceAt, Instr.sliceBounds, Instr.sliceBound, asIntOf, run_underlying hP, hl, hs, elp, h3]
theorem o_iaO2 {d : Option Nat} {t : TypeId} {ps : String} {af : Array Edge} {g : Option (Nat × Bool)} {x y : Operand} {s i j m' c' : Nat} {K : IntKind} (hP : P.underlying T = some (.slice e)) (hs : ∀ w, (sizeOf e).run P w = .ok s w) (ho : Own enc k e D w (.slice a m c) l)
  (hx : ev fr x = .slice (elp a (j * s)) m' c') (hy : ev fr y = .int K (i : Int)) (hi : i < m') (hm : j + i < m) : xop P fr w ⟨d, .indexAddr T x y, t, ps, af, g⟩ = .ok (.value (.pointer (elp a ((j + i) * s)))) w := by
 rcases ho.row.2 with ⟨h1, h2⟩ | ⟨g', cap, cur, h1, _⟩
 ·simp at h1; omega
 ·simp at h1
  obtain ⟨rfl, _⟩ := h1
  rw [ZY] at hx ⊢
  have := o_ia (d := d) (t := t) (ps := ps) (af := af) (g := g) (w := w) hP hs hx hy hi
  rw [this, show 0 + j * s + i * s = 0 + (j + i) * s from by rw [Nat.add_mul]; omega]
theorem Own.cutTo {x l r : List α} {j : Nat} (he : EncOk enc k) (h : Own enc k e D w (.slice a m c) ((x ++ l).take j ++ r)) (hx : x.length = j) : Own enc k e D w (.slice a j c) x := by
 subst hx
 rw [List.take_left'  rfl] at h
 have := h.cut he (j := x.length) (by simp)
 rwa [List.take_left' rfl] at this
theorem Vc {ops : Array Oper} {rest : List Oper} {ty : TypeId} {pos : String} {af : Array Edge} {x : Operand} {j n' c' : Nat} (x0 : α)
  (he : EncOk enc k) (ht : ElT P T e k by_ z) (hz : z.cells.toList = enc x0) (hx : ev fr x = .slice (elp a (j * k)) n' c') (ho : Own enc k e D w (.slice a m c) l) (hn : n' = l.length - j) (hj : j < l.length)
  (hk : ∀ w', Bel True D w w' → Own enc k e D w' (.slice a m c) (l.take j ++ List.replicate n' x0) → Rg rd P n ops rest K fr w') :
  Rg rd P n ops (⟨none, .call { callee := .builtin .clear, args := #[x], argTypes := #[T] }, ty, pos, af, none⟩ :: rest) K fr w := by
 obtain ⟨i, hi, hzz, hs, hby⟩ := ht.inf
 rcases ho.row.2 with ⟨h1, h2⟩ | ⟨g, cap, cur, h1, h2, h3, h4, h5, h6, h7⟩
 ·omega
 ·have hsl : a = some ⟨g, 0, none⟩ ∧ m = l.length ∧ c = cap := by simp at h1; exact h1
  obtain ⟨rfl, rfl, rfl⟩ := hsl
  rw [ZY, Nat.zero_add] at hx
  have hzs : z.cells.size = k := by rw [← Array.length_toList, hz, he.len]
  have hvs : (Builtin.zeroCells z.cells n').toList = (List.replicate n' x0).flatMap enc := by
   rw [← Z7 he hz]
   unfold Builtin.zeroCells madeCells
   rw [hzs]
  have hvl : (Builtin.zeroCells z.cells n').toList.length = n' * k := by rw [hvs, Zz he]; simp
  have hlk : l.length * k ≤ cur.size := by rw [h6]; exact Nat.mul_le_mul_right _ h4
  have hjn : j * k + n' * k = l.length * k := by rw [← Nat.add_mul]; congr 1; omega
  have hst := run_storeCells_at (P := P) g (j * k) e (Builtin.zeroCells z.cells n').toList 0 cur w h3 (by rw [hvl]; omega) (by rw [hvs]; exact fm_one he _)
  simp only [Nat.add_zero, hvl] at hst
  have hzv : (zeroValue e).run P w = .ok z w := by simp [zeroValue, typeInfo, hi, hzz]
  obtain ⟨n1, rfl⟩ : ∃ n1, n' = n1 + 1 := ⟨n' - 1, by omega⟩
  refine ZX (v := .tuple #[]) rfl (w' := w.setRow g (cur.toList.take (j * k) ++ (Builtin.zeroCells z.cells (n1 + 1)).toList ++ cur.toList.drop (j * k + (n1 + 1) * k)).toArray) ?_ (hk _ ?_ ?_)
  ·simp [execOp, resolve, invoke, builtin, hx, Builtin.clear_, run_underlying ht.sl, hzv, hst]
  ·exact ⟨rfl, rfl, rfl, by simp, fun q _ hq => setRow_other w g q _ (fun e => hq (by subst e; exact ho.loc _ rfl)), fun _ => Nat.le_refl _⟩
  ·have hcl : (cur.toList.take (j * k) ++ (Builtin.zeroCells z.cells (n1 + 1)).toList ++ cur.toList.drop (j * k + (n1 + 1) * k)).length = cur.size := by
    simp only [List.length_append, hvl, List.length_take, List.length_drop, Array.length_toList]; omega
   have hll : (l.take j ++ List.replicate (n1 + 1) x0).length = l.length := by simp [List.length_take]; omega
   refine ⟨⟨by rw [Zz he], .inr ⟨g, c, _, by simp; omega, h2, setRow_heap w g cur _ e _ h3, by rw [hll]; exact h4, h5, by rw [List.size_toArray, hcl, h6], ?_⟩⟩, ho.loc⟩
   rw [hll, List.toList_toArray, List.flatMap_append, ← hvs, YB he]
   have t1 : cur.toList.take (j * k) = (l.flatMap enc).take (j * k) := by rw [← h7, List.take_take]; congr 1; omega
   have hA : ((l.flatMap enc).take (j * k) ++ (Builtin.zeroCells z.cells (n1 + 1)).toList).length = l.length * k := by
    rw [List.length_append, hvl, List.length_take, Zz he]; omega
   rw [t1, List.take_append, hA, List.take_of_length_le (by rw [hA]; exact Nat.le_refl _)]
   simp
end
