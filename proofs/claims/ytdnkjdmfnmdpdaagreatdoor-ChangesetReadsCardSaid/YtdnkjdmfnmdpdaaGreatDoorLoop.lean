/- Several texts in one file. -/
import Derived.Test.YtdnkjdmfnmdpdaaGreatDoorBase
import Derived.Laws.MakeOwn
import Derived.Maps.AppendAt
import Derived.Laws.OwnMore
set_option linter.unusedSimpArgs false
set_option linter.unusedVariables false
set_option linter.unnecessarySimpa false
/- Loops: the slots that a round writes are told by a list; all others are as they were ahead of the loop. Nothing of a program stands here. -/
namespace Go.Lx
open Go Go.RowKit
def inR (R : List (Nat × Nat)) (j : Nat) : Bool := R.any fun p => Nat.ble p.1 j && Nat.ble j p.2
def mix (R : List (Nat × Nat)) (fr base : Fr) : Fr := ⟨fun j => bif inR R j then base j else fr j, fr.ds⟩
def setL (fr : Fr) : List (Nat × Value) → Fr
 | [] => fr
 | p :: r => (setL fr r).set p.1 p.2
def slotsOk (fr : Fr) : List (Nat × Value) → Prop
 | [] => True
 | p :: r => fr p.1 = p.2 ∧ slotsOk fr r
def Off (R : List (Nat × Nat)) (fr g : Fr) : Prop := g.ds = fr.ds ∧ ∀ j, inR R j = false → g j = fr j
theorem set_ne {fr : Fr} {d j : Nat} {v : Value} (h : j ≠ d) : fr.set d v j = fr j := by
 have : Nat.beq j d = false := by
  cases hx : Nat.beq j d with
  | false => rfl
  | true => exact absurd (Nat.eq_of_beq_eq_true hx) h
 simp only [Fr.set, this, cond_false]
theorem set_eq {fr : Fr} {d : Nat} {v : Value} : fr.set d v d = v := by
 have : Nat.beq d d = true := Nat.beq_refl d
 simp only [Fr.set, this, cond_true]
theorem set_same {fr : Fr} {d : Nat} {v : Value} (h : fr d = v) : fr.set d v = fr := by
 refine Fr.ext' (fun j => ?_) rfl
 by_cases hj : j = d
 ·subst hj; rw [set_eq, h]
 ·rw [set_ne hj]
theorem setL_same {fr : Fr} : ∀ {L : List (Nat × Value)}, slotsOk fr L → setL fr L = fr
 | [], _ => rfl
 | p :: r, h => by rw [setL, setL_same h.2, set_same h.1]
theorem mix_same {R : List (Nat × Nat)} {fr g : Fr} (h : Off R fr g) : mix R fr g = g := by
 refine Fr.ext' (fun j => ?_) h.1.symm
 simp only [mix]
 cases hj : inR R j with
 | true => rfl
 | false => rw [cond_false, h.2 j hj]
theorem off_refl (R : List (Nat × Nat)) (fr : Fr) : Off R fr fr := ⟨rfl, fun _ _ => rfl⟩
theorem off_set {R : List (Nat × Nat)} {fr g : Fr} {d : Nat} {v : Value} (hd : inR R d = true) (h : Off R fr g) : Off R fr (g.set d v) := by
 refine ⟨h.1, fun j hj => ?_⟩
 rw [set_ne (by intro e; subst e; rw [hd] at hj; cases hj)]
 exact h.2 j hj
theorem off_put {R : List (Nat × Nat)} {fr g : Fr} {d : Nat} {v : Value} (hd : inR R d = true) (h : Off R fr g) : Off R fr (g.put (some d) v) := off_set hd h
theorem off_putN {R : List (Nat × Nat)} {fr g : Fr} {v : Value} (h : Off R fr g) : Off R fr (g.put none v) := h
theorem off_setL {R : List (Nat × Nat)} {fr g : Fr} : ∀ {L : List (Nat × Value)}, (L.all fun p => inR R p.1) = true → Off R fr g → Off R fr (setL g L)
 | [], _, h => h
 | p :: r, hL, h => by
  rw [List.all_cons, Bool.and_eq_true] at hL
  exact off_set hL.1 (off_setL hL.2 h)
theorem off_mix {R : List (Nat × Nat)} {fr base : Fr} : Off R fr (mix R fr base) := by
 refine ⟨rfl, fun j hj => ?_⟩
 simp only [mix, hj, cond_false]
def subR (R' R : List (Nat × Nat)) : Bool := R'.all fun p => R.any fun q => Nat.ble q.1 p.1 && Nat.ble p.2 q.2
theorem inR_sub {R' R : List (Nat × Nat)} {j : Nat} (h : subR R' R = true) (hj : inR R' j = true) : inR R j = true := by
 simp only [inR, List.any_eq_true, Bool.and_eq_true, Nat.ble_eq] at hj ⊢
 obtain ⟨p, hp, h1, h2⟩ := hj
 simp only [subR, List.all_eq_true, List.any_eq_true, Bool.and_eq_true, Nat.ble_eq] at h
 obtain ⟨q, hq, h3, h4⟩ := h p hp
 exact ⟨q, hq, by omega, by omega⟩
theorem off_mix' {R R' : List (Nat × Nat)} {fr fr' base : Fr} (hs : subR R' R = true) (h : Off R fr fr') : Off R fr (mix R' fr' base) := by
 refine ⟨h.1, fun j hj => ?_⟩
 have : inR R' j = false := by
  cases hx : inR R' j with
  | false => rfl
  | true => rw [inR_sub hs hx] at hj; cases hj
 simp only [mix, this, cond_false]
 exact h.2 j hj
theorem oR (R : List (Nat × Nat)) (fr : Fr) : Off R fr fr := off_refl R fr
theorem oM {R : List (Nat × Nat)} {fr base : Fr} : Off R fr (mix R fr base) := off_mix
theorem oP {R : List (Nat × Nat)} {fr g : Fr} {d : Nat} {v : Value} (hd : inR R d = true) (h : Off R fr g) : Off R fr (g.put (some d) v) := off_put hd h
theorem oN {R : List (Nat × Nat)} {fr g : Fr} {v : Value} (h : Off R fr g) : Off R fr (g.put none v) := off_putN h
theorem oL {R : List (Nat × Nat)} {fr g : Fr} {L : List (Nat × Value)} (hL : (L.all fun p => inR R p.1) = true) (h : Off R fr g) : Off R fr (setL g L) := off_setL hL h
theorem oX {R R' : List (Nat × Nat)} {fr fr' base : Fr} (hs : subR R' R = true) (h : Off R fr fr') : Off R fr (mix R' fr' base) := off_mix' hs h
theorem oT {R : List (Nat × Nat)} {fr g : Fr} (h : Off R fr g := by repeat (first | with_reducible exact oR _ _ | with_reducible exact oM | ((with_reducible refine oP ?_ ?_); exact rfl) | (with_reducible refine oN ?_) | ((with_reducible refine oL ?_ ?_); exact rfl) | ((with_reducible refine oX ?_ ?_); exact rfl) | refine oP rfl ?_ | refine oN ?_ | refine oL rfl ?_ | refine oX rfl ?_ | exact oR _ _ | exact oM)) : Off R fr g := h
theorem sT {a b : Value} (h : a = b := by first | rfl | (go_num) | (exact congrArg _ (by omega))) : a = b := h
theorem Zd {rd : Option Nat} {P : Program} {n : Nat} {c : Code} {K : Fr → World → Prop} {E : Nat → Fr → World → Prop} {Rt : Fr → World → Prop} {fr : Fr} {w : World} {α : Type}
  (R : List (Nat × Nat)) (S : α → List (Nat × Value)) (I : α → World → Prop) (mu : α → Nat) (x0 : α) (hS : slotsOk fr (S x0)) (h0 : I x0 w)
  (hr : ∀ x base w, I x w → W rd P n c (fun fr' w' => ∃ y, slotsOk fr' (S y) ∧ Off R fr fr' ∧ I y w' ∧ mu y < mu x) E Rt (setL (mix R fr base) (S x)) w) :
  W rd P n (.loop c) K E Rt fr w := by
 refine W_loop (fun x fr' w' => slotsOk fr' (S x) ∧ Off R fr fr' ∧ I x w') mu x0 ⟨hS, off_refl _ _, h0⟩ ?_
 rintro x fr' w' ⟨h1, h2, h3⟩
 have := hr x fr' w' h3
 rw [mix_same h2, setL_same h1] at this
 refine this.mono ?_ (fun _ _ _ h => h) (fun _ _ h => h)
 rintro fr2 w2 ⟨y, h1, h2, h3, h4⟩
 exact ⟨y, ⟨h1, h2, h3⟩, h4⟩
end Go.Lx
/- Slices that are read: a slice of elements of k cells each, told by a list. Nothing of a program stands here. -/
namespace Go.Lx
open Go Go.RowKit
structure Sl {α : Type} (enc : α → List Value) (k : Nat) (F : Nat → Prop) (w : World) (a : Option Addr) (c : Nat) (l : List α) : Prop where
 le : l.length ≤ c
 cap : c ≤ maxLen
 nil : a = none → c = 0
 el : ∀ i x, l[i]? = some x → ∃ b off, a = some ⟨b, off, none⟩ ∧ (F b ∧ b < w.heap.size) ∧ At w b (off + i * k) (enc x) ∧ (enc x).length = k
def Rd {α : Type} (enc : α → List Value) (k : Nat) (F : Nat → Prop) (w : World) (v : Value) (l : List α) : Prop := ∃ a c, v = .slice a l.length c ∧ Sl enc k F w a c l
section
variable {α : Type} {enc : α → List Value} {k : Nat} {F : Nat → Prop} {w w' : World} {a : Option Addr} {c : Nat} {l : List α}
theorem Sl.keep {γ : Prop} {D : Nat → Prop} (h : Sl enc k F w a c l) (x : Bel γ D w w') (hd : ∀ b, b < w.heap.size → F b → ¬ D b) : Sl enc k F w' a c l :=
 ⟨h.le, h.cap, h.nil, fun i y hy => let ⟨b, off, h1, h2, h3, h4⟩ := h.el i y hy; ⟨b, off, h1, ⟨h2.1, Nat.lt_of_lt_of_le h2.2 x.size⟩, h3.keep x (hd b h2.2 h2.1), h4⟩⟩
theorem Sl.ext {γ : Prop} (h : Sl enc k F w a c l) (x : Ext γ w w') : Sl enc k F w' a c l := h.keep x fun _ _ _ h => h
theorem Sl.mono {F' : Nat → Prop} (h : Sl enc k F w a c l) (hF : ∀ b, b < w.heap.size → F b → F' b) : Sl enc k F' w a c l :=
 ⟨h.le, h.cap, h.nil, fun i y hy => let ⟨b, off, h1, h2, h3, h4⟩ := h.el i y hy; ⟨b, off, h1, ⟨hF b h2.2 h2.1, h2.2⟩, h3, h4⟩⟩
theorem Sl.top (h : Sl enc k F w a c l) : Sl enc k (Lt w.heap.size) w a c l := h.mono fun _ hb _ => hb
theorem Sl.rd (h : Sl enc k F w a c l) : Rd enc k F w (.slice a l.length c) l := ⟨a, c, rfl, h⟩
theorem Sl.trd (h : Sl enc k F w a c l) : Rd enc k (Lt w.heap.size) w (.slice a l.length c) l := h.top.rd
theorem Sl.none : Sl enc k F w none 0 ([] : List α) := ⟨Nat.le_refl _, Nat.zero_le _, fun _ => rfl, fun i x h => by simp at h⟩
theorem Rd.none : Rd enc k F w (.slice none 0 0) ([] : List α) := ⟨_, _, rfl, Sl.none⟩
theorem Rd.keep {γ : Prop} {D : Nat → Prop} {v : Value} (h : Rd enc k F w v l) (x : Bel γ D w w') (hd : ∀ b, b < w.heap.size → F b → ¬ D b) : Rd enc k F w' v l := let ⟨a, c, h1, h2⟩ := h; ⟨a, c, h1, h2.keep x hd⟩
theorem Rd.ext {γ : Prop} {v : Value} (h : Rd enc k F w v l) (x : Ext γ w w') : Rd enc k F w' v l := h.keep x fun _ _ _ h => h
theorem Rd.mono {F' : Nat → Prop} {v : Value} (h : Rd enc k F w v l) (hF : ∀ b, b < w.heap.size → F b → F' b) : Rd enc k F' w v l := let ⟨a, c, h1, h2⟩ := h; ⟨a, c, h1, h2.mono hF⟩
theorem Rd.top {v : Value} (h : Rd enc k F w v l) : Rd enc k (Lt w.heap.size) w v l := h.mono fun _ hb _ => hb
theorem Sl.len (h : Sl enc k F w a c l) : (l.length : Int) ≤ 9223372036854775807 := by
 have h1 := h.le; have h2 := h.cap; unfold maxLen at h2; omega
end
def elp (a : Option Addr) (j : Nat) : Option Addr := a.map fun a => a.add j
theorem elp_some (b off j : Nat) : elp (some ⟨b, off, none⟩) j = some ⟨b, off + j, none⟩ := by
 simp only [elp, Option.map_some, Addr.add]
 by_cases h : j = 0
 ·subst h; rfl
 ·rw [if_neg h]
section
variable {P : Program} {fr : Fr} {w : World} {d : Option Nat} {t : TypeId} {ps : String} {af : Array Edge} {g : Option (Nat × Bool)} {x y z : Operand} {T U : TypeId} {α : Type} {enc : α → List Value} {k : Nat} {F : Nat → Prop} {a : Option Addr} {c : Nat} {l : List α} {K : IntKind}
theorem Ze {e : TypeId} {n i s : Nat} (hP : P.underlying T = some (.slice e)) (hs : ∀ w, (sizeOf e).run P w = .ok s w) (hr : Sl enc k F w a c l) (hx : ev fr x = .slice a l.length n) (hy : ev fr y = .int K (i : Int)) (hi : i < l.length) :
  xop P fr w ⟨d, .indexAddr T x y, t, ps, af, g⟩ = .ok (.value (.pointer (elp a (i * s)))) w := by
 obtain ⟨b, off, rfl, _⟩ := hr.el i _ (List.getElem?_eq_getElem hi)
 rw [elp_some]
 exact o_ia hP hs hx hy hi
theorem o_ldR {i : Nat} {v : Value} {y : α} (ha : ∀ w, (isAgg T).run P w = .ok false w) (hr : Sl enc k F w a c l) (hk : k = 1) (hx : ev fr x = .pointer (elp a (i * 1))) (hi : l[i]? = some y) (hv : enc y = [v]) :
  xop P fr w ⟨d, .load T x, t, ps, af, g⟩ = .ok (.value v) w := by
 subst hk
 obtain ⟨b, off, rfl, _, h3, _⟩ := hr.el i _ hi
 rw [elp_some] at hx
 rw [hv] at h3
 exact Qo ha hx (h3 0 v rfl)
theorem Zk {i s : Nat} {y : α} (ha : ∀ w, (isAgg T).run P w = .ok true w) (hs : ∀ w, (sizeOf T).run P w = .ok s w) (hr : Sl enc s F w a c l) (hx : ev fr x = .pointer (elp a (i * s))) (hi : l[i]? = some y) :
  xop P fr w ⟨d, .load T x, t, ps, af, g⟩ = .ok (.value (.agg (enc y).toArray)) w := by
 obtain ⟨b, off, rfl, _, h3, h4⟩ := hr.el i _ hi
 rw [elp_some] at hx
 exact QA ha hs hx h3 h4
theorem o_slto {e : TypeId} {n c s : Nat} {j : Nat} (hP : P.underlying T = some (.slice e)) (hs : ∀ w, (sizeOf e).run P w = .ok s w) (hx : ev fr x = .slice a n c) (hj : ev fr z = .int .i64 (j : Int)) (hl : j ≤ c) :
  xop P fr w ⟨d, .slice T x none (some z) none, t, ps, af, g⟩ = .ok (.value (.slice a j c)) w := by
 have e0 : (if c = 0 then a else a.map (·.add (0 * s))) = a := by
  by_cases h : c = 0
  ·rw [if_pos h]
  ·rw [if_neg h]; cases a with
   | none => rfl
   | some v => simp [Addr.add]
 simp [xop, execOp, hx, hj, Instr.slice, Instr.sliceAt, Instr.sliceBounds, Instr.sliceBound, asIntOf, run_underlying hP, hl, hs]
 simpa using e0
end
end Go.Lx
/- Slices that a call owns: append, make, a store to an element, a cut. Nothing of a program stands here. -/
namespace Go.Lx
open Go Go.RowKit
structure EncOk {α : Type} (enc : α → List Value) (k : Nat) : Prop where
 pos : 0 < k
 len : ∀ x, (enc x).length = k
 one : ∀ x, ∀ u ∈ enc x, u.oneCell' = true
section
variable {α : Type} {enc : α → List Value} {k : Nat}
theorem fm_len (h : EncOk enc k) (l : List α) : (l.flatMap enc).length = l.length * k := by
 induction l with
 | nil => simp
 | cons x l ih => rw [List.flatMap_cons, List.length_append, ih, h.len, List.length_cons, Nat.add_mul]; omega
theorem fm_take (h : EncOk enc k) : ∀ (l : List α) (j : Nat), (l.take j).flatMap enc = (l.flatMap enc).take (j * k)
 | [], j => by simp
 | x :: l, 0 => by simp
 | x :: l, j + 1 => by
  rw [List.take_succ_cons, List.flatMap_cons, List.flatMap_cons, fm_take h l j, List.take_append, h.len]
  have e1 : (j + 1) * k - k = j * k := by rw [Nat.add_mul]; omega
  rw [e1, List.take_of_length_le (l := enc x) (by rw [h.len, Nat.add_mul]; omega)]
theorem fm_drop (h : EncOk enc k) : ∀ (l : List α) (j : Nat), (l.drop j).flatMap enc = (l.flatMap enc).drop (j * k)
 | [], j => by simp
 | x :: l, 0 => by simp
 | x :: l, j + 1 => by
  rw [List.drop_succ_cons, List.flatMap_cons, fm_drop h l j, List.drop_append, h.len]
  have e1 : (j + 1) * k - k = j * k := by rw [Nat.add_mul]; omega
  rw [e1, List.drop_of_length_le (l := enc x) (by rw [h.len, Nat.add_mul]; omega), List.nil_append]
theorem fm_get {l : List α} {i : Nat} {x : α} (h : EncOk enc k) (hi : l[i]? = some x) (j : Nat) (hj : j < k) : (l.flatMap enc)[i * k + j]? = (enc x)[j]? := by
 obtain ⟨hlt, hx⟩ := List.getElem?_eq_some_iff.1 hi
 have h1 : (l.drop i).flatMap enc = enc x ++ (l.drop (i + 1)).flatMap enc := by rw [List.drop_eq_getElem_cons hlt, List.flatMap_cons, hx]
 rw [fm_drop h] at h1
 have h2 : (l.flatMap enc)[i * k + j]? = ((l.flatMap enc).drop (i * k))[j]? := by rw [List.getElem?_drop]
 rw [h2, h1, List.getElem?_append_left (by rw [h.len]; exact hj)]
theorem fm_one (h : EncOk enc k) (l : List α) : ∀ u ∈ l.flatMap enc, u.oneCell' = true := by
 intro u hu
 obtain ⟨x, _, hx⟩ := List.mem_flatMap.1 hu
 exact h.one x u hx
end
structure ElT (P : Program) (T e : TypeId) (size bytes : Nat) (z : Value) : Prop where
 sl : P.underlying T = some (.slice e)
 inf : ∃ i, P.info? e = some i ∧ i.zero = some z ∧ i.size = size ∧ i.bytes = bytes
 zs : z.cells.size = size
 pos : 0 < size
 bp : 0 < bytes
structure Own {α : Type} (enc : α → List Value) (k : Nat) (e : TypeId) (D : Nat → Prop) (w : World) (v : Value) (l : List α) : Prop where
 row : w.ownsRow 0 e k v l.length (l.flatMap enc)
 loc : ∀ g, v.ownBlock = some g → D g
theorem Bel.ofGrown {w w' : World} {v : Value} (hg : w.grownBy w' v.ownBlock) : Bel False (fun g => v.ownBlock = some g) w w' :=
 ⟨hg.os, hg.tape, hg.output, hg.size, fun b hb hn => hg.block b hb fun e => hn e.symm, False.elim⟩
section
variable {α : Type} {enc : α → List Value} {k : Nat} {D : Nat → Prop} {e : TypeId} {w w' : World} {v : Value} {l : List α}
theorem Own.nil (w : World) (D : Nat → Prop) : Own enc k e D w (.slice none 0 0) ([] : List α) := ⟨World.ownsRow_nil w 0 e k, fun g h => by simp [Value.ownBlock] at h⟩
theorem Own.lt (h : Own enc k e D w v l) : ∀ g, v.ownBlock = some g → g < w.heap.size := by
 intro g hg
 rcases h.row.2 with ⟨h1, _⟩ | ⟨g', cap, cur, h1, h2, h3, h4⟩
 ·subst h1; simp [Value.ownBlock] at hg
 ·subst h1
  simp [Value.ownBlock] at hg
  subst hg
  exact (Array.getElem?_eq_some_iff.1 h3).1
theorem Own.keep {γ : Prop} {D' : Nat → Prop} (h : Own enc k e D w v l) (x : Bel γ D' w w') (hd : ∀ g, g < w.heap.size → v.ownBlock = some g → ¬ D' g) : Own enc k e D w' v l := by
 refine ⟨⟨h.row.1, ?_⟩, h.loc⟩
 rcases h.row.2 with h' | ⟨g, cap, cur, h1, h2, h3, h4⟩
 ·exact .inl h'
 ·have hlt := (Array.getElem?_eq_some_iff.1 h3).1
  exact .inr ⟨g, cap, cur, h1, h2, by rw [x.block g hlt (hd g hlt (by rw [h1]; rfl))]; exact h3, h4⟩
theorem Own.keepD {γ : Prop} {D' : Nat → Prop} (h : Own enc k e D w v l) (x : Bel γ D' w w') (hd : ∀ g, g < w.heap.size → D g → ¬ D' g) : Own enc k e D w' v l := h.keep x fun g hg hv => hd g hg (h.loc g hv)
theorem Own.ext {γ : Prop} (h : Own enc k e D w v l) (x : Ext γ w w') : Own enc k e D w' v l := h.keep x fun _ _ _ => id
theorem Own.mono {D' : Nat → Prop} (h : Own enc k e D w v l) (hD : ∀ g, g < w.heap.size → D g → D' g) : Own enc k e D' w v l := ⟨h.row, fun g hg => hD g (h.lt g hg) (h.loc g hg)⟩
theorem Own.at {D' : Nat → Prop} (h : Own enc k e D w v l) (hD : ∀ g, g < w.heap.size → v.ownBlock = some g → D' g) : Own enc k e D' w v l := ⟨h.row, fun g hg => hD g (h.lt g hg) hg⟩
theorem Own.sl (h : Own enc k e D w v l) (he : EncOk enc k) : ∃ a c, v = .slice a l.length c ∧ Sl enc k D w a c l := by
 rcases h.row.2 with ⟨h1, h2⟩ | ⟨g, cap, cur, h1, h2, h3, h4, h5, h6, h7⟩
 ·have hl : l = [] := List.eq_nil_of_length_eq_zero h2
  subst hl
  exact ⟨none, 0, h1, Sl.none⟩
 ·refine ⟨some ⟨g, 0, none⟩, cap, h1, h4, h5, (fun h => by cases h), ?_⟩
  intro i x hi
  have hlt := (Array.getElem?_eq_some_iff.1 h3).1
  refine ⟨g, 0, rfl, ⟨h.loc g (by rw [h1]; rfl), hlt⟩, ?_, he.len x⟩
  intro j u hj
  have hjk : j < k := by
   have := (List.getElem?_eq_some_iff.1 hj).1
   rwa [he.len x] at this
  have hg := fm_get he hi j hjk
  rw [hj, ← h7, List.getElem?_take] at hg
  split at hg
  ·rw [Nat.zero_add]
   simp only [World.cell?, h3]
   simpa using hg
  ·cases hg
theorem Own.slA {a : Option Addr} {m c : Nat} (h : Own enc k e D w (.slice a m c) l) (he : EncOk enc k) : Sl enc k D w a c l := by
 obtain ⟨a', c', h1, h2⟩ := h.sl he
 simp at h1
 obtain ⟨rfl, rfl, rfl⟩ := h1
 exact h2
theorem Own.rd (h : Own enc k e D w v l) (he : EncOk enc k) : Rd enc k D w v l := h.sl he
theorem Own.trd (h : Own enc k e D w v l) (he : EncOk enc k) : Rd enc k (Lt w.heap.size) w v l := (h.rd he).top
theorem Sl.cells {F : Nat → Prop} {a : Option Addr} {c : Nat} (h : Sl enc k F w a c l) (he : EncOk enc k) (hl : l ≠ []) : ∃ b off, a = some ⟨b, off, Option.none⟩ ∧ (F b ∧ b < w.heap.size) ∧ At w b off (l.flatMap enc) := by
 have h0 : 0 < l.length := List.length_pos_iff.2 hl
 obtain ⟨b, off, h1, h2, _⟩ := h.el 0 l[0] (List.getElem?_eq_getElem h0)
 refine ⟨b, off, h1, h2, fun j u hj => ?_⟩
 have hjl : j < l.length * k := by
  have := (List.getElem?_eq_some_iff.1 hj).1
  rwa [fm_len he] at this
 have hk := he.pos
 have hi : j / k < l.length := Nat.div_lt_of_lt_mul (by rw [Nat.mul_comm]; exact hjl)
 have hm : j % k < k := Nat.mod_lt _ hk
 have e1 : j = (j / k) * k + j % k := by have := Nat.div_add_mod j k; rw [Nat.mul_comm] at this; exact this.symm
 obtain ⟨b', off', g1, _, g3, _⟩ := h.el (j / k) l[j / k] (List.getElem?_eq_getElem hi)
 rw [h1] at g1
 simp only [Option.some.injEq, Addr.mk.injEq, and_true] at g1
 obtain ⟨rfl, rfl⟩ := g1
 have hg := fm_get he (List.getElem?_eq_getElem hi) (j % k) hm
 rw [← e1, hj] at hg
 have := g3 (j % k) u hg.symm
 rwa [Nat.add_assoc, ← e1] at this
end
section
variable {rd : Option Nat} {P : Program} {n : Nat} {K : Fr → World → Prop} {fr : Fr} {w : World} {α : Type} {enc : α → List Value} {k : Nat} {D : Nat → Prop} {T e : TypeId} {by_ : Nat} {z : Value}
theorem app_run {ty : TypeId} {v : Value} {l : List α} {ad : Addr} {m c : Nat} (news : List α) (he : EncOk enc k) (ht : ElT P T e k by_ z) (ho : Own enc k e D w v l) (hn : ∀ j u, (news.flatMap enc)[j]? = some u → w.cell? (ad.add j) = some u) (hm : news.length = m) (hb : (l.length + m) * by_ ≤ 140737488355328) (hD : ∀ g, w.heap.size ≤ g → D g) :
  ∃ v' w', (Builtin.append_ #[T, T] ty #[v, .slice (some ad) m c]).run P w = .ok v' w' ∧ Bel False D w w' ∧ Own enc k e D w' v' (l ++ news) := by
 obtain ⟨i, hi, hz, hs, hby⟩ := ht.inf
 subst hm
 have hcap : l.length + news.length ≤ maxLen := by
  have : l.length + news.length ≤ (l.length + news.length) * by_ := Nat.le_mul_of_pos_right _ ht.bp
  unfold maxLen; omega
 obtain ⟨v', w', hr, h2, h3, _, h5⟩ := run_append_own_at (P := P) w 0 T ty e i z k by_ ht.sl hi hz hs hby ht.zs ht.pos v l.length (l.flatMap enc) ho.row ad news.length c (news.flatMap enc) (fm_len he news) hn (fm_one he news) hcap hb (Nat.zero_le _)
 refine ⟨v', w', hr, (Bel.ofGrown h3).mono fun g _ hg => ho.loc g hg, ⟨by rw [List.length_append, List.flatMap_append]; exact h2, fun g hg => ?_⟩⟩
 rcases h5 with h5 | h5
 ·exact ho.loc g (by rw [← h5]; exact hg)
 ·rw [h5] at hg
  exact hD g (by injection hg with hg; omega)
theorem Q3 {ops : Array Oper} {rest : List Oper} {d : Option Nat} {ty : TypeId} {pos : String} {af : Array Edge} {x y : Operand} {v : Value} {l news : List α} {a : Option Addr} {m c : Nat} {F : Nat → Prop}
  (hd : dstOk n d = true) (he : EncOk enc k) (ht : ElT P T e k by_ z) (hx : ev fr x = v) (hy : ev fr y = .slice a m c) (ho : Own enc k e D w v l)
  (hn : Sl enc k F w a c news) (hm : news.length = m) (hb : (l.length + news.length) * by_ ≤ 140737488355328) (hD : ∀ g, w.heap.size ≤ g → D g)
  (hk : ∀ v' w', Bel False D w w' → Own enc k e D w' v' (l ++ news) → Rg rd P n ops rest K (fr.put d v') w') :
  Rg rd P n ops (⟨d, .call { callee := .builtin .append, args := #[x, y], argTypes := #[T, T] }, ty, pos, af, none⟩ :: rest) K fr w := by
 obtain ⟨i, hi, hz, hs, hby⟩ := ht.inf
 have key : ∃ v' w', (Builtin.append_ #[T, T] ty #[v, .slice a m c]).run P w = .ok v' w' ∧ Bel False D w w' ∧ Own enc k e D w' v' (l ++ news) := by
  cases a with
  | none =>
   have hc := hn.nil rfl
   have hl := hn.le
   subst hm
   have h0 : news = [] := List.eq_nil_of_length_eq_zero (by omega)
   subst h0
   subst hc
   exact ⟨v, w, run_append_owned_none (P := P) w 0 T ty e i k ht.sl hi v l.length (l.flatMap enc) ho.row, Bel.refl _ _, by rw [List.append_nil]; exact ho⟩
  | some ad =>
   refine app_run news he ht ho ?_ hm (by rw [← hm]; exact hb) hD
   intro j u hj
   have hne : news ≠ [] := by rintro rfl; simp at hj
   obtain ⟨b, off, h1, h2, h3⟩ := hn.cells he hne
   simp only [Option.some.injEq] at h1
   subst h1
   have := h3 j u hj
   unfold Addr.add
   by_cases h : j = 0
   ·subst h; simpa using this
   ·rw [if_neg h]; exact this
 obtain ⟨v', w', hr, h2, h3⟩ := key
 have hrun : (execOp (ev fr) ⟨d, .call { callee := .builtin .append, args := #[x, y], argTypes := #[T, T] }, ty, pos, af, none⟩).run P w = .ok (.value v') w' := by
  simp [execOp, resolve, invoke, builtin, hx, hy, hr]
 exact Rg_run hd hrun (hk v' w' h2 h3)
theorem o_llenO {d : Option Nat} {t : TypeId} {ps : String} {af : Array Edge} {g : Option (Nat × Bool)} {x : Operand} {v : Value} {l : List α} (hP : P.underlying T = some (.slice e)) (hx : ev fr x = v) (ho : Own enc k e D w v l) : xop P fr w ⟨d, .call { callee := .builtin .len, args := #[x], argTypes := #[T] }, t, ps, af, g⟩ = .ok (.value (.int .i64 (l.length : Int))) w := by
 rcases ho.row.2 with ⟨h1, h2⟩ | ⟨g, cap, cur, h1, _⟩
 ·rw [h2]; exact QM hP (hx.trans h1)
 ·exact QM hP (hx.trans h1)
/-! buildSlice -/
def number (i : Nat) : List Value → List (Nat × Value)
 | [] => []
 | v :: r => (i, v) :: number (i + 1) r
def flat (vs : List Value) : List Value := vs.flatMap fun v => v.cells.toList
theorem fold_set (off : Nat) : ∀ (cs : List Value) (m : Nat) (A : Array Value), off + m + cs.length ≤ A.size →
  (cs.zipIdx m).foldl (fun a (p : Value × Nat) => a.setIfInBounds (off + p.2) p.1) A = (A.toList.take (off + m) ++ cs ++ A.toList.drop (off + m + cs.length)).toArray
 | [], m, A, _ => by simp
 | c :: cs, m, A, h => by
  simp only [List.length_cons] at h
  rw [List.zipIdx_cons, List.foldl_cons, fold_set off cs (m + 1) _ (by simp; omega)]
  apply congrArg
  have hlt : off + m < A.toList.length := by simp; omega
  simp only [Array.toList_setIfInBounds, List.length_cons]
  rw [List.drop_set_of_lt (by omega), show off + (m + 1) = off + m + 1 from by omega, List.take_succ_eq_append_getElem (by simpa using hlt), List.take_set_of_le (Nat.le_refl _)]
  simp only [List.getElem_set_self, List.append_assoc, List.cons_append, List.nil_append]
  rw [show off + m + 1 + cs.length = off + m + (cs.length + 1) from by omega]
theorem fill_number (s : Nat) : ∀ (vs : List Value) (i : Nat) (A : Array Value), (∀ v ∈ vs, v.cells.size = s) → i * s + (flat vs).length ≤ A.size →
  Instr.fill (fun i => some (i * s, s)) A (number i vs) = some (A.toList.take (i * s) ++ flat vs ++ A.toList.drop (i * s + (flat vs).length)).toArray
 | [], i, A, _, _ => by simp [number, Instr.fill, flat]
 | v :: vs, i, A, hv, hl => by
  have hv0 : v.cells.size = s := hv v (by simp)
  have hf : flat (v :: vs) = v.cells.toList ++ flat vs := by simp [flat]
  rw [hf, List.length_append, Array.length_toList, hv0] at hl
  simp only [number, Instr.fill]
  rw [if_neg (by simp [hv0]; omega)]
  have e1 : v.cells.zipIdx.foldl (fun cs (x : Value × Nat) => cs.setIfInBounds (i * s + x.2) x.1) A = (A.toList.take (i * s) ++ v.cells.toList ++ A.toList.drop (i * s + s)).toArray := by
   rw [← Array.foldl_toList, Array.toList_zipIdx, fold_set (i * s) v.cells.toList 0 A (by simp [hv0]; omega)]
   simp [hv0]
  have e2 := e1
  rw [show (v.cells.zipIdx.foldl (fun cs (x : Value × Nat) => match x with | (c, j) => cs.setIfInBounds (i * s + j) c) A) = v.cells.zipIdx.foldl (fun cs (x : Value × Nat) => cs.setIfInBounds (i * s + x.2) x.1) A from rfl, e1]
  have hsz : (A.toList.take (i * s)).length = i * s := by rw [List.length_take]; simp; omega
  have hvl : v.cells.toList.length = s := by simp [hv0]
  rw [fill_number s vs (i + 1) _ (fun u hu => hv u (by simp [hu])) (by
   simp only [List.size_toArray, List.length_append, hsz, hvl, List.length_drop, Array.length_toList, Nat.add_mul]; omega)]
  apply congrArg; apply congrArg
  have hA : (A.toList.take (i * s) ++ v.cells.toList).length = (i + 1) * s := by rw [List.length_append, hsz, hvl, Nat.add_mul]; omega
  have e3 : (A.toList.take (i * s) ++ v.cells.toList ++ A.toList.drop (i * s + s)).take ((i + 1) * s) = A.toList.take (i * s) ++ v.cells.toList := by rw [← hA, List.take_left]
  have e4 : (A.toList.take (i * s) ++ v.cells.toList ++ A.toList.drop (i * s + s)).drop ((i + 1) * s + (flat vs).length) = A.toList.drop (i * s + (s + (flat vs).length)) := by
   rw [← List.drop_drop, ← hA, List.drop_left, List.drop_drop]
   congr 1; omega
  simp only [List.toList_toArray]
  rw [e3, e4, hf, List.length_append, hvl]
  simp only [List.append_assoc]
theorem run_bs {vs : List Value} {parts : Array (Nat × Value)} {len s : Nat} (ht : ElT P T e s by_ z) (hp : parts.toList = number 0 vs) (hv : ∀ v ∈ vs, v.cells.size = s) (hn : vs.length = len) (hsm : len * s ≤ 16777216) :
  (Instr.buildSlice T len parts).run P w = .ok (.slice (some ⟨w.heap.size, 0, none⟩) len len) (w.alloc (.cells (flat vs).toArray e)) := by
 obtain ⟨i, hi, hz, hs, hby⟩ := ht.inf
 have hfl : ∀ (us : List Value), (∀ v ∈ us, v.cells.size = s) → (flat us).length = us.length * s := by
  intro us
  induction us with
  | nil => intro _; simp [flat]
  | cons u us ih =>
   intro h
   have : flat (u :: us) = u.cells.toList ++ flat us := by simp [flat]
   rw [this, List.length_append, ih (fun x hx => h x (by simp [hx])), Array.length_toList, h u (by simp), List.length_cons, Nat.add_mul]; omega
 have hfill : ∀ A : Array Value, A.size = len * s → Instr.fill (fun i => some (i * s, s)) A parts.toList = some (flat vs).toArray := by
  intro A hA
  rw [hp, fill_number s vs 0 A hv (by rw [hfl vs hv, hn, hA]; omega)]
  apply congrArg; apply congrArg
  simp only [Nat.zero_mul, List.take_zero, List.nil_append, Nat.zero_add]
  rw [List.drop_of_length_le (by rw [hfl vs hv, hn]; simp [hA]), List.append_nil]
 have hns : ¬ (2 ^ 24 < len * s) := by omega
 by_cases h0 : len * s = 0
 ·have := hfill #[] (by simp [h0])
  simp [Instr.buildSlice, run_underlying ht.sl, sizeOf, typeInfo, hi, hs, hns, h0, newRow, Array.range_zero']
  rw [this]; simp [newObj, Sem.run]
 ·have := hfill ((Array.range (len * s)).map (z.cells[· % z.cells.size]!)) (by simp)
  simp [Instr.buildSlice, run_underlying ht.sl, sizeOf, typeInfo, hi, hs, hns, h0, zeroValue, hz, newRow]
  rw [this]; simp [newObj, Sem.run]
def idxs (i : Nat) : List Operand → List Nat
 | [] => []
 | _ :: r => i :: idxs (i + 1) r
theorem number_of : ∀ (ps : List (Nat × Operand)) (f : Operand → Value) (i : Nat), ps.map (·.1) = idxs i (ps.map (·.2)) → ps.map (fun p => (p.1, f p.2)) = number i (ps.map fun p => f p.2)
 | [], _, _, _ => rfl
 | p :: ps, f, i, h => by
  simp only [List.map_cons, idxs, List.cons.injEq] at h
  simp only [List.map_cons, number, number_of ps f (i + 1) h.2, h.1]
def sizesOk (s : Nat) : List Value → Prop
 | [] => True
 | v :: r => v.cells.size = s ∧ sizesOk s r
theorem sizesOk.mem {s : Nat} : ∀ {vs : List Value}, sizesOk s vs → ∀ v ∈ vs, v.cells.size = s
 | [], _, v, hv => by simp at hv
 | u :: r, h, v, hv => by
  rcases List.mem_cons.1 hv with rfl | hv
  ·exact h.1
  ·exact h.2.mem v hv
theorem Q7 {ops : Array Oper} {rest : List Oper} {d : Option Nat} {ty : TypeId} {pos : String} {af : Array Edge} {len : Nat} {parts : Array (Nat × Operand)} {vs : List Value} (news : List α)
  (hd : dstOk n d = true) (he : EncOk enc k) (ht : ElT P T e k by_ z) (hi : parts.toList.map (·.1) = idxs 0 (parts.toList.map (·.2))) (hv : (parts.toList.map fun p => ev fr p.2) = vs) (hs : sizesOk k vs) (hf : flat vs = news.flatMap enc) (hl : news.length = len) (hp : parts.toList.length = len) (hsm : Nat.ble (len * k) 16777216 = true)
  (hk : ∀ a w', Ext True w w' → Own enc k e (Fsh w w') w' (.slice a len len) news → Rg rd P n ops rest K (fr.put d (.slice a len len)) w') :
  Rg rd P n ops (⟨d, .buildSlice T len parts, ty, pos, af, none⟩ :: rest) K fr w := by
 have hpn : (parts.map fun (x : Nat × Operand) => (x.1, ev fr x.2)).toList = number 0 vs := by
  rw [← hv, Array.toList_map]; exact number_of _ _ _ hi
 have hlen : vs.length = len := by rw [← hv, List.length_map]; exact hp
 have hr := run_bs (w := w) (len := len) ht hpn hs.mem hlen (by simpa using hsm)
 have hle : len ≤ 16777216 := by
  have h1 : len * k ≤ 16777216 := by simpa using hsm
  exact Nat.le_trans (Nat.le_mul_of_pos_right _ he.pos) h1
 refine Rg_run hd (v := .slice (some ⟨w.heap.size, 0, none⟩) len len) (w' := w.alloc (.cells (flat vs).toArray e)) ?_ (hk _ _ (Ext.alloc _ _) ⟨⟨by rw [fm_len he], .inr ⟨w.heap.size, len, (flat vs).toArray, by rw [hl], Nat.zero_le _, heap_alloc_new w _, by rw [hl]; exact Nat.le_refl _, by unfold maxLen; omega, by rw [hf, List.size_toArray, fm_len he, hl], by rw [hf, List.toList_toArray, List.take_of_length_le (by rw [fm_len he]; exact Nat.le_refl _)]⟩⟩, ?_⟩)
 ·simp only [execOp]
  simp only [Sem.run_bind, Sem.run_pure]
  have : (Array.map (fun x : Nat × Operand => match x with | (i, x) => (i, ev fr x)) parts) = parts.map fun (x : Nat × Operand) => (x.1, ev fr x.2) := rfl
  rw [this, hr]
  rfl
 ·intro g hg
  simp [Value.ownBlock] at hg
  subst hg
  exact ⟨Nat.le_refl _, by simp⟩
theorem madeCells_rep {x : α} (he : EncOk enc k) (hz : z.cells.toList = enc x) (m : Nat) : (madeCells z.cells (m * k)).toList = (List.replicate m x).flatMap enc := by
 have hzs : z.cells.size = k := by rw [← Array.length_toList, hz, he.len]
 apply List.ext_getElem?
 intro j
 by_cases hj : j < m * k
 ·have hk := he.pos
  have h1 : j / k < m := Nat.div_lt_of_lt_mul (by rw [Nat.mul_comm]; exact hj)
  have h2 : j % k < k := Nat.mod_lt _ hk
  have e1 : j = (j / k) * k + j % k := by have := Nat.div_add_mod j k; rw [Nat.mul_comm] at this; exact this.symm
  have hr : (List.replicate m x)[j / k]? = some x := by simp [h1]
  have e2 := fm_get he hr (j % k) h2
  rw [← e1] at e2
  rw [e2, ← hz]
  simp only [madeCells, Array.toList_map, Array.toList_range, List.getElem?_map]
  rw [List.getElem?_range hj]
  simp [hzs, h2]
 ·have : ((List.replicate m x).flatMap enc).length ≤ j := by rw [fm_len he]; simp; omega
  rw [List.getElem?_eq_none this, List.getElem?_eq_none]
  simp [madeCells]; omega
theorem Rg_make {ops : Array Oper} {rest : List Oper} {d : Option Nat} {ty : TypeId} {pos : String} {af : Array Edge} {x y : Operand} {m : Nat} (x0 : α)
  (hd : dstOk n d = true) (he : EncOk enc k) (ht : ElT P T e k by_ z) (hz : z.cells.toList = enc x0) (hx : ev fr x = .int .i64 (m : Int)) (hy : ev fr y = .int .i64 (m : Int)) (hb : m * by_ ≤ 140737488355328)
  (hk : ∀ a w', Ext True w w' → Own enc k e (Fsh w w') w' (.slice a m m) (List.replicate m x0) → Rg rd P n ops rest K (fr.put d (.slice a m m)) w') :
  Rg rd P n ops (⟨d, .makeSlice T x y, ty, pos, af, none⟩ :: rest) K fr w := by
 obtain ⟨i, hi, hzz, hs, hby⟩ := ht.inf
 have hm : m ≤ 140737488355328 := Nat.le_trans (Nat.le_mul_of_pos_right _ ht.bp) hb
 have hbi : (i.bytes : Int) * (m : Int) ≤ 281474976710656 := by
  rw [hby, ← Int.natCast_mul, Nat.mul_comm]; omega
 have hr := run_make (P := P) w T e i z ht.sl hi hzz .i64 .i64 (m : Int) (m : Int) (by omega) (Int.le_refl _) hbi (by omega)
 rw [hs] at hr
 simp only [Int.toNat_natCast] at hr
 refine Rg_run hd (v := .slice (some ⟨w.heap.size, 0, none⟩) m m) (w' := w.alloc (.cells (madeCells z.cells (m * k)) e)) ?_ (hk _ _ (Ext.alloc _ _) ⟨⟨by rw [fm_len he], .inr ⟨w.heap.size, m, _, by simp, Nat.zero_le _, heap_alloc_new w _, by simp, by unfold maxLen; omega, size_madeCells _ _, ?_⟩⟩, ?_⟩)
 ·simp [execOp, hx, hy, hr]
 ·rw [madeCells_rep (x := x0) he hz, List.take_of_length_le (by rw [fm_len he]; simp)]
 ·intro g hg
  simp [Value.ownBlock] at hg
  subst hg
  exact ⟨Nat.le_refl _, by simp⟩
theorem set_flat {l : List α} {i : Nat} {x : α} (he : EncOk enc k) (hi : i < l.length) : (l.set i x).flatMap enc = (l.flatMap enc).take (i * k) ++ enc x ++ (l.flatMap enc).drop (i * k + k) := by
 rw [List.set_eq_take_append_cons_drop, if_pos hi, List.flatMap_append, List.flatMap_cons, fm_take he, fm_drop he, List.append_assoc, show (i + 1) * k = i * k + k from by rw [Nat.add_mul]; omega]
theorem Rg_elst {ops : Array Oper} {rest : List Oper} {d : Option Nat} {ty : TypeId} {pos : String} {af : Array Edge} {U : TypeId} {x y : Operand} {v : Value} {l : List α} {a : Option Addr} {c i m : Nat} {u : α}
  (hd : dstOk n d = true) (he : EncOk enc k) (hs : ∀ w, (sizeOf U).run P w = .ok k w) (hx : ev fr x = .pointer (elp a (i * k))) (hy : ev fr y = v) (hv : v.cells.toList = enc u) (ho : Own enc k e D w (.slice a m c) l) (hi : i < l.length)
  (hk : ∀ w', Bel True D w w' → Own enc k e D w' (.slice a m c) (l.set i u) → Rg rd P n ops rest K (fr.put d undef) w') :
  Rg rd P n ops (⟨d, .store U x y, ty, pos, af, none⟩ :: rest) K fr w := by
 rcases ho.row.2 with ⟨h1, h2⟩ | ⟨g, cap, cur, h1, h2, h3, h4, h5, h6, h7⟩
 ·omega
 ·have hsl : a = some ⟨g, 0, none⟩ ∧ m = l.length ∧ c = cap := by simp at h1; exact h1
  obtain ⟨rfl, rfl, rfl⟩ := hsl
  rw [elp_some, Nat.zero_add] at hx
  have hlk : l.length * k ≤ cur.size := by rw [h6]; exact Nat.mul_le_mul_right _ h4
  have hik : i * k + k ≤ l.length * k := by rw [← Nat.succ_mul]; exact Nat.mul_le_mul_right _ hi
  have hvl : v.cells.toList.length = k := by rw [hv, he.len]
  have hst := run_storeCells_at (P := P) g (i * k) e v.cells.toList 0 cur w h3 (by rw [hvl]; omega) (by rw [hv]; exact he.one u)
  simp only [Nat.add_zero, hvl] at hst
  have hsz : v.cells.size = k := by rw [← Array.length_toList]; exact hvl
  refine Rg_skip hd (w' := w.setRow g (cur.toList.take (i * k) ++ v.cells.toList ++ cur.toList.drop (i * k + k)).toArray) ?_ (hk _ ?_ ?_)
  ·simp [execOp, hx, hy, Instr.storeAt, Instr.sureAddr, storeVar, hs, hsz, hst]
  ·exact ⟨rfl, rfl, rfl, by simp, fun j _ hj => setRow_other w g j _ (fun e => hj (by subst e; exact ho.loc _ rfl)), fun _ => Nat.le_refl _⟩
  ·have hcl : (cur.toList.take (i * k) ++ v.cells.toList ++ cur.toList.drop (i * k + k)).length = cur.size := by
    simp only [List.length_append, hvl, List.length_take, List.length_drop, Array.length_toList]; omega
   refine ⟨⟨by rw [fm_len he], .inr ⟨g, c, _, by simp, h2, setRow_heap w g cur _ e _ h3, by simpa using h4, h5, by rw [List.size_toArray, hcl, h6], ?_⟩⟩, ho.loc⟩
   rw [List.length_set, List.toList_toArray, set_flat he hi, ← hv]
   have t1 : cur.toList.take (i * k) = (l.flatMap enc).take (i * k) := by rw [← h7, List.take_take]; congr 1; omega
   have t2 : (l.flatMap enc).drop (i * k + k) = (cur.toList.drop (i * k + k)).take (l.length * k - (i * k + k)) := by rw [← h7, List.drop_take]
   rw [t1, t2]
   have hA : ((l.flatMap enc).take (i * k) ++ v.cells.toList).length = i * k + k := by
    rw [List.length_append, hvl, List.length_take, fm_len he]; omega
   rw [List.take_append, hA, List.take_of_length_le (by rw [hA]; exact hik)]
theorem Own.cut {w : World} {l : List α} {a : Option Addr} {m c j : Nat} (he : EncOk enc k) (h : Own enc k e D w (.slice a m c) l) (hj : j ≤ l.length) : Own enc k e D w (.slice a j c) (l.take j) := by
 have hl : (l.take j).length = j := by rw [List.length_take]; omega
 have hloc : ∀ g, (Value.slice a j c).ownBlock = some g → D g := by
  intro g hg
  refine h.loc g ?_
  cases a <;> simpa [Value.ownBlock] using hg
 refine ⟨⟨by rw [fm_len he], ?_⟩, hloc⟩
 rcases h.row.2 with ⟨h1, h2⟩ | ⟨g, cap, cur, h1, h2, h3, h4, h5, h6, h7⟩
 ·simp at h1
  obtain ⟨rfl, rfl, rfl⟩ := h1
  have : j = 0 := by omega
  subst this
  exact .inl ⟨rfl, by simp⟩
 ·simp at h1
  obtain ⟨rfl, rfl, rfl⟩ := h1
  refine .inr ⟨g, c, cur, by rw [hl], h2, h3, by rw [hl]; omega, h5, h6, ?_⟩
  rw [hl, fm_take he, ← h7, List.take_take]
  congr 1
  exact (Nat.min_eq_left (Nat.mul_le_mul_right _ hj)).symm
theorem o_min {x y : Operand} {d : Option Nat} {t : TypeId} {ps : String} {af : Array Edge} {g : Option (Nat × Bool)} {tys : Array TypeId} {a b : Int} (hx : ev fr x = .int .i64 a) (hy : ev fr y = .int .i64 b) :
  xop P fr w ⟨d, .call { callee := .builtin .min, args := #[x, y], argTypes := tys }, t, ps, af, g⟩ = .ok (.value (.int .i64 (if b < a then b else a))) w := by
 simp [xop, execOp, resolve, invoke, builtin, hx, hy, Builtin.min_, Builtin.min2]
end
end Go.Lx
