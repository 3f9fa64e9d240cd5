/- Several texts in one file. -/
import Derived.Test.YtgmpgfokblehdaaGreatDoorPure11
import Derived.Test.YtgmpgfokblehdaaGreatDoorSort
import Derived.Laws.Pointers
set_option linter.unusedSimpArgs false
set_option linter.unusedVariables false
set_option linter.unnecessarySimpa false
/- Pairs of numbers below 64. Nothing of a program stands here. -/
namespace Go.Lx
open Go
abbrev Pr := Fin 64 × Fin 64
def iv (x : Fin 64) : Int := (x.val : Int)
def encPr (p : Pr) : List Value := [.int .i64 (iv p.1), .int .i64 (iv p.2)]
theorem encPr_ok : EncOk encPr 2 := ⟨by decide, fun _ => rfl, fun x u hu => by
 simp [encPr] at hu
 rcases hu with rfl | rfl <;> rfl⟩
def pz0 : Pr := (0, 0)
theorem ZT (x : Fin 64) : 0 ≤ iv x ∧ iv x < 64 := by unfold iv; have := x.isLt; omega
theorem iv_inj {x y : Fin 64} : iv x = iv y ↔ x = y := by
 unfold iv
 constructor
 ·intro h; exact Fin.ext (by omega)
 ·rintro rfl; rfl
theorem iv_beq (x y : Fin 64) : (iv x == iv y) = (x == y) := by
 rw [Bool.eq_iff_iff, beq_iff_eq, beq_iff_eq, iv_inj]
def cmpPr (p q : Pr) : Int := if (iv p.1 != iv q.1) = true then iv p.1 - iv q.1 else iv p.2 - iv q.2
theorem cmpPr_is : IsCmp cmpPr where
 eq p q := by
  unfold cmpPr
  split
  ·rename_i h
   have h1 : iv p.1 ≠ iv q.1 := by simpa using h
   constructor
   ·intro e; omega
   ·rintro rfl; exact absurd rfl h1
  ·rename_i h
   have h1 : iv p.1 = iv q.1 := by simpa using h
   constructor
   ·intro e
    have h2 : iv p.2 = iv q.2 := by omega
    exact Prod.ext (iv_inj.1 h1) (iv_inj.1 h2)
   ·rintro rfl; omega
 anti p q := by
  unfold cmpPr
  by_cases h : iv p.1 = iv q.1
  ·rw [if_neg (by simpa using h.symm), if_neg (by simpa using h)]; omega
  ·rw [if_pos (by simpa using fun e => h e.symm), if_pos (by simpa using h)]; omega
 tr p q r := by
  unfold cmpPr
  by_cases h : iv p.1 = iv q.1 <;> by_cases h' : iv q.1 = iv r.1 <;> by_cases h'' : iv p.1 = iv r.1 <;>
   (try rw [if_neg (by simpa using h)]) <;> (try rw [if_pos (by simpa using h)]) <;> (try rw [if_neg (by simpa using h')]) <;> (try rw [if_pos (by simpa using h')]) <;> (try rw [if_neg (by simpa using h'')]) <;> (try rw [if_pos (by simpa using h'')]) <;> omega
end Go.Lx
/- Pointers and nil; a checked type. Nothing of a program stands here. -/
namespace Go.Lx
open Go Go.RowKit
section
variable {P : Program} {fr : Fr} {w : World} {d : Option Nat} {t : TypeId} {ps : String} {af : Array Edge} {g : Option (Nat × Bool)} {x y z : Operand} {T K E U : TypeId}
theorem QJ {v : Addr} (hx : ev fr x = .pointer (some v)) : xop P fr w ⟨d, .nilCheck x, t, ps, af, g⟩ = .ok (.value (.pointer (some v))) w := by
 simp [xop, execOp, hx]
theorem o_tassert {v : Value} {D : TypeDesc} (hT : P.underlying T = some D) (hD : (match D with | .interface _ => true | _ => false) = false) (hx : ev fr x = .iface T v) : xop P fr w ⟨d, .typeAssert x U T false, t, ps, af, g⟩ = .ok (.value v) w := by
 cases D <;> simp_all [xop, execOp, Instr.typeAssert, run_underlying hT]
theorem pointee_of {tp : TypeId} (hT : P.underlying T = some (.pointer tp)) : P.underlying T = some (.pointer (P.pointee T)) := by
 have : P.pointee T = tp := by unfold Program.pointee; rw [hT]
 rw [this]; exact hT
theorem Zi {a : Option Addr} {tp : TypeId} (hT : P.underlying T = some (.pointer tp)) (hx : ev fr x = .pointer a) (hy : ev fr y = .pointer none) : xop P fr w ⟨d, .binOp .eql T x y U, t, ps, af, g⟩ = .ok (.value (.bool a.isNone)) w := by
 have := run_eql_pointer_nil (P := P) (w := w) T a (pointee_of hT)
 simp only [xop, execOp, hx, hy, eqGuard]
 simp [this]
theorem o_pne {a : Option Addr} {tp : TypeId} (hT : P.underlying T = some (.pointer tp)) (hx : ev fr x = .pointer a) (hy : ev fr y = .pointer none) : xop P fr w ⟨d, .binOp .neq T x y U, t, ps, af, g⟩ = .ok (.value (.bool !a.isNone)) w := by
 have := run_neq_pointer_nil (P := P) (w := w) T a (pointee_of hT)
 simp only [xop, execOp, hx, hy, eqGuard]
 simp [this]
end
end Go.Lx
/- An order in memory: its block, its pairs, the sets above and below each element. Nothing of a program stands here. -/
namespace Go.Lx
open Go Go.RowKit
structure OV where
 n : Nat
 ap : Option Addr
 cp : Nat
 pairs : List Pr
 aa : Option Addr
 ca : Nat
 above : List SV
 ab : Option Addr
 cb : Nat
 below : List SV
 asp : Option Addr
 csp : Nat
 sorted : List Int
def encOd (o : OV) : List Value := [.int .i64 (o.n : Int), .slice o.ap o.pairs.length o.cp, .slice o.aa o.above.length o.ca, .slice o.ab o.below.length o.cb, .slice o.asp o.sorted.length o.csp]
def WdsAt (F : Nat → Prop) (w : World) (l : List SV) : Prop := ∀ s ∈ l, Sl encU 1 F w s.a s.c (wl s.x)
structure OdAt (F : Nat → Prop) (w : World) (p : Nat) (o : OV) : Prop where
 blk : F p
 at' : At w p 0 (encOd o)
 pr : Sl encPr 2 F w o.ap o.cp o.pairs
 ab : Sl encSV 1 F w o.aa o.ca o.above
 be : Sl encSV 1 F w o.ab o.cb o.below
 wa : WdsAt F w o.above
 wb : WdsAt F w o.below
 la : o.above.length = o.n
 lb : o.below.length = o.n
 hn : o.n ≤ 64
section
variable {F F' D : Nat → Prop} {γ : Prop} {w w' : World} {p : Nat} {o : OV}
theorem WdsAt.keep {l : List SV} (h : WdsAt F w l) (x : Bel γ D w w') (hd : ∀ b, b < w.heap.size → F b → ¬ D b) : WdsAt F w' l := fun s hs => (h s hs).keep x hd
theorem WdsAt.mono {l : List SV} (h : WdsAt F w l) (hd : ∀ b, b < w.heap.size → F b → F' b) : WdsAt F' w l := fun s hs => (h s hs).mono hd
theorem WdsAt.ext {l : List SV} (h : WdsAt F w l) (x : Ext γ w w') : WdsAt F w' l := fun s hs => (h s hs).ext x
theorem OdAt.lt (h : OdAt F w p o) : p < w.heap.size := h.at'.lt
theorem OdAt.keep (h : OdAt F w p o) (x : Bel γ D w w') (hd : ∀ b, b < w.heap.size → F b → ¬ D b) : OdAt F w' p o :=
 ⟨h.blk, h.at'.keep x (hd p h.lt h.blk), h.pr.keep x hd, h.ab.keep x hd, h.be.keep x hd, h.wa.keep x hd, h.wb.keep x hd, h.la, h.lb, h.hn⟩
theorem OdAt.ext (h : OdAt F w p o) (x : Ext γ w w') : OdAt F w' p o := h.keep x fun _ _ _ => id
theorem OdAt.mono (h : OdAt F w p o) (hd : ∀ b, b < w.heap.size → F b → F' b) : OdAt F' w p o :=
 ⟨hd p h.lt h.blk, h.at', h.pr.mono hd, h.ab.mono hd, h.be.mono hd, h.wa.mono hd, h.wb.mono hd, h.la, h.lb, h.hn⟩
end
def postSV (F : Nat → Prop) (e : W64) : Post := fun v w => ∃ a c, v = .agg (encSV ⟨a, c, e⟩).toArray ∧ Sl encU 1 F w a c (wl e)
theorem Zf (F : Nat → Prop) (e : W64) : Stable (postSV F e) := fun _ _ _ ⟨a, c, h1, h2⟩ x => ⟨a, c, h1, h2.ext x⟩
@[irreducible] def belO (o : OV) (a : Int) : W64 := if 0 ≤ a ∧ a < (o.n : Int) then (o.below.getD a.toNat sz).x else 0
@[irreducible] def junO (o : OV) (r : Int) : W64 := if 1 ≤ r ∧ r ≤ 63 then belO o r ||| oneW r.toNat else 0
def HrAt (F : Nat → Prop) (w : World) (v : Value) : Option OV → Prop
 | none => v = .pointer none
 | some o => ∃ ph po, v = .pointer (some ⟨ph, 0, none⟩) ∧ F ph ∧ At w ph 0 [.pointer (some ⟨po, 0, none⟩)] ∧ OdAt F w po o
def junH (H : Option OV) (r : Int) : W64 := match H with
 | none => 0
 | some o => junO o r
def closH (H : Option OV) (l : List Int) : W64 := l.foldl (fun x r => x ||| junH H r) 0
section
variable {F F' D : Nat → Prop} {γ : Prop} {w w' : World} {v : Value} {H : Option OV}
theorem HrAt.keep (h : HrAt F w v H) (x : Bel γ D w w') (hd : ∀ b, b < w.heap.size → F b → ¬ D b) : HrAt F w' v H := by
 cases H with
 | none => exact h
 | some o =>
  obtain ⟨ph, po, h1, h2, h3, h4⟩ := h
  exact ⟨ph, po, h1, h2, h3.keep x (hd ph h3.lt h2), h4.keep x hd⟩
theorem HrAt.ext (h : HrAt F w v H) (x : Ext γ w w') : HrAt F w' v H := h.keep x fun _ _ _ => id
theorem HrAt.mono (h : HrAt F w v H) (hd : ∀ b, b < w.heap.size → F b → F' b) : HrAt F' w v H := by
 cases H with
 | none => exact h
 | some o =>
  obtain ⟨ph, po, h1, h2, h3, h4⟩ := h
  exact ⟨ph, po, h1, hd ph h3.lt h2, h3, h4.mono hd⟩
end
end Go.Lx
/- The order of an acyclic relation: what the lists hold while elements are taken one after the other. No program in sight. -/
namespace Go.Lx
open Go
def lof {α : Type} (f : Nat → α) : List α := (List.range 64).map f
theorem Jq {α : Type} (f : Nat → α) : (lof f).length = 64 := by simp [lof]
theorem J7 {α : Type} (f : Nat → α) {i : Nat} (h : i < 64) : (lof f)[i]? = some (f i) := by simp [lof, h]
theorem JB {α : Type} {f g : Nat → α} (h : ∀ i, i < 64 → f i = g i) : lof f = lof g := by
 unfold lof
 apply List.map_congr_left
 intro i hi
 exact h i (by simpa using hi)
theorem lof_set {α : Type} (f : Nat → α) (i : Nat) (v : α) : (lof f).set i v = lof fun j => if j = i then v else f j := by
 apply List.ext_getElem?
 intro j
 by_cases hj : j < 64
 ·rw [J7 _ hj, List.getElem?_set]
  by_cases e : i = j
  ·subst e; simp [Jq, hj]
  ·rw [if_neg e, J7 _ hj, if_neg (fun h => e h.symm)]
 ·rw [List.getElem?_eq_none (by simp [Jq]; omega), List.getElem?_eq_none (by simp [Jq]; omega)]
theorem rep_lof {α : Type} (x : α) : List.replicate 64 x = lof fun _ => x := by
 apply List.ext_getElem?
 intro j
 by_cases hj : j < 64
 ·rw [J7 _ hj, List.getElem?_replicate, if_pos hj]
 ·rw [List.getElem?_eq_none (by simp; omega), List.getElem?_eq_none (by simp [Jq]; omega)]
theorem nodup_le {α : Type} [BEq α] [LawfulBEq α] : ∀ {l m : List α}, l.Nodup → (∀ x ∈ l, x ∈ m) → l.length ≤ m.length
 | [], m, _, _ => Nat.zero_le _
 | x :: l, m, h, hs => by
  obtain ⟨h1, h2⟩ := List.nodup_cons.1 h
  have hx := hs x (by simp)
  have := nodup_le (m := m.erase x) h2 (fun y hy => (List.mem_erase_of_ne (fun e : y = x => h1 (by rw [← e]; exact hy))).2 (hs y (by simp [hy])))
  rw [List.length_erase_of_mem hx] at this
  have := List.length_pos_of_mem hx
  simp; omega
theorem Y2 {α : Type} {p q r : α → Bool} : ∀ {l : List α}, (∀ x ∈ l, p x = (q x || r x) ∧ (q x && r x) = false) → l.countP p = l.countP q + l.countP r
 | [], _ => rfl
 | x :: l, h => by
  have ih := Y2 (l := l) (fun y hy => h y (by simp [hy]))
  obtain ⟨h1, h2⟩ := h x (by simp)
  simp only [List.countP_cons, ih, h1]
  cases hq : q x <;> cases hr : r x <;> simp_all <;> omega
def cIn (l : List Pr) (i : Nat) : Nat := l.countP fun x => x.2.val == i
def cOut (l : List Pr) (srt : List (Fin 64)) (i : Nat) : Nat := l.countP fun x => x.2.val == i && !srt.contains x.1
def cFrom (l : List Pr) (k : Fin 64) (i : Nat) : Nat := l.countP fun x => x.2.val == i && (x.1 == k)
theorem takeS {l : List Pr} {k : Nat} (h : k < l.length) : l.take (k + 1) = l.take k ++ [l.getD k pz0] := by
 rw [List.take_add_one, List.getElem?_eq_getElem h]
 simp [List.getD, List.getElem?_eq_getElem h]
theorem cIn_succ {l : List Pr} {k : Nat} (h : k < l.length) (i : Nat) : cIn (l.take (k + 1)) i = if i = (l.getD k pz0).2.val then cIn (l.take k) i + 1 else cIn (l.take k) i := by
 rw [takeS h, cIn, List.countP_append, ← cIn]
 generalize l.getD k pz0 = y
 by_cases e : i = y.2.val
 ·rw [if_pos e]; simp [List.countP_cons, e]
 ·rw [if_neg e]
  have : (y.2.val == i) = false := by simpa using fun h => e h.symm
  simp [List.countP_cons, this]
theorem cIn_set {l : List Pr} {k : Nat} (h : k < l.length) : (lof fun i => (cIn (l.take k) i : Int)).set (l.getD k pz0).2.val ((cIn (l.take k) (l.getD k pz0).2.val : Int) + 1) = lof fun i => (cIn (l.take (k + 1)) i : Int) := by
 rw [lof_set]
 apply JB
 intro i _
 rw [cIn_succ h]
 by_cases e : i = (l.getD k pz0).2.val
 ·rw [if_pos e, if_pos e, e]; rfl
 ·rw [if_neg e, if_neg e]
theorem YR {l : List Pr} {k : Nat} (h : k < l.length) (kk : Fin 64) (i : Nat) : cFrom (l.take (k + 1)) kk i = if (l.getD k pz0).1 = kk ∧ i = (l.getD k pz0).2.val then cFrom (l.take k) kk i + 1 else cFrom (l.take k) kk i := by
 rw [takeS h, cFrom, List.countP_append, ← cFrom]
 generalize l.getD k pz0 = y
 by_cases e : y.1 = kk ∧ i = y.2.val
 ·rw [if_pos e]; simp [List.countP_cons, e.1, e.2]
 ·rw [if_neg e]
  have : (y.2.val == i && (y.1 == kk)) = false := by
   cases h1 : (y.2.val == i && (y.1 == kk)) with
   | false => rfl
   | true =>
    simp at h1
    exact absurd ⟨h1.2, h1.1.symm⟩ e
  simp only [List.countP_cons, List.countP_nil, this]; simp
theorem c_le (l : List Pr) (p : Pr → Bool) : l.countP p ≤ l.length := List.countP_le_length
def lfA (ps : List Pr) (srt : List (Fin 64)) (i : Nat) : Int := if srt.any (fun j => j.val == i) then -1 else (cOut ps srt i : Int)
def lfB (ps : List Pr) (srt : List (Fin 64)) (kk : Fin 64) (k : Nat) (i : Nat) : Int := if (srt ++ [kk]).any (fun j => j.val == i) then -1 else (cOut ps srt i : Int) - (cFrom (ps.take k) kk i : Int)
structure Topo (ps : List Pr) (srt : List (Fin 64)) : Prop where
 nd : srt.Nodup
 up : ∀ i b, srt[i]? = some b → ∀ x ∈ ps, x.2 = b → ∃ j : Nat, j < i ∧ srt[j]? = some x.1
theorem Topo.nil (ps : List Pr) : Topo ps [] := ⟨List.nodup_nil, fun i b h => by simp at h⟩
theorem lfA_start (ps : List Pr) : (lof fun i => (cIn (ps.take ps.length) i : Int)) = lof (lfA ps []) := by
 apply JB
 intro i _
 simp [lfA, cOut, cIn]
theorem any_val {srt : List (Fin 64)} {k : Fin 64} : (srt.any fun j => j.val == k.val) = srt.contains k := by
 rw [Bool.eq_iff_iff]
 simp only [List.any_eq_true, List.contains_iff_mem, beq_iff_eq]
 exact ⟨fun ⟨j, h1, h2⟩ => by rw [← Fin.ext h2]; exact h1, fun h => ⟨k, h, rfl⟩⟩
theorem zero_of {ps : List Pr} {srt : List (Fin 64)} {k : Fin 64} (h : lfA ps srt k.val = 0) : k ∉ srt ∧ ∀ x ∈ ps, x.2 = k → x.1 ∈ srt := by
 unfold lfA at h
 rw [any_val] at h
 cases hc : srt.contains k with
 | true => rw [hc] at h; simp at h
 | false =>
  rw [hc] at h
  simp only [Bool.false_eq_true, if_false] at h
  refine ⟨by simpa using hc, fun x hx e => ?_⟩
  have h0 : cOut ps srt k.val = 0 := by omega
  unfold cOut at h0
  rw [List.countP_eq_zero] at h0
  have := h0 x hx
  rw [e] at this
  simpa using this
theorem Topo.snoc {ps : List Pr} {srt : List (Fin 64)} {k : Fin 64} (h : Topo ps srt) (hz : lfA ps srt k.val = 0) : Topo ps (srt ++ [k]) := by
 obtain ⟨h1, h2⟩ := zero_of hz
 refine ⟨?_, ?_⟩
 ·rw [List.nodup_append]
  refine ⟨h.nd, by simp, fun a ha b hb => ?_⟩
  simp at hb; subst hb
  exact fun e => h1 (e ▸ ha)
 ·intro i b hi x hx e
  by_cases hl : i < srt.length
  ·rw [List.getElem?_append_left hl] at hi
   obtain ⟨j, hj, hs⟩ := h.up i b hi x hx e
   exact ⟨j, hj, by rw [List.getElem?_append_left (by omega)]; exact hs⟩
  ·have hi0 : i = srt.length := by
    have := (List.getElem?_eq_some_iff.1 hi).1
    simp at this; omega
   subst hi0
   simp at hi
   obtain ⟨j, hj, hs⟩ := List.mem_iff_getElem.1 (h2 x hx (e.trans hi.symm))
   exact ⟨j, hj, by rw [List.getElem?_append_left hj, List.getElem?_eq_getElem hj, hs]⟩
theorem zero_ex {ps : List Pr} {srt : List (Fin 64)} (ρ : Fin 64 → Nat) (hρ : ∀ x ∈ ps, ρ x.1 < ρ x.2) (hl : srt.length < 64) : ∃ k : Fin 64, lfA ps srt k.val = 0 := by
 have hex : ∃ k : Fin 64, k ∉ srt := by
  apply Classical.byContradiction
  intro hn
  have hall : ∀ k : Fin 64, k ∈ srt := fun k => Classical.byContradiction fun h => hn ⟨k, h⟩
  have := nodup_le (List.nodup_finRange 64) (fun k _ => hall k)
  simp at this; omega
 obtain ⟨m, ⟨k, hk, hm⟩, hmin⟩ := Jv (fun m => ∃ k : Fin 64, k ∉ srt ∧ ρ k = m) (by obtain ⟨k, hk⟩ := hex; exact ⟨ρ k, k, hk, rfl⟩)
 refine ⟨k, ?_⟩
 have hc : srt.contains k = false := by simpa using hk
 unfold lfA
 rw [any_val, hc]
 simp only [Bool.false_eq_true, if_false]
 have : cOut ps srt k.val = 0 := by
  unfold cOut
  rw [List.countP_eq_zero]
  intro x hx
  simp only [Bool.and_eq_true, beq_iff_eq, Bool.not_eq_true', not_and, Bool.not_eq_false]
  intro e
  have e' : x.2 = k := Fin.ext e
  apply Classical.byContradiction
  intro hx1
  have h1 : x.1 ∉ srt := by simpa using hx1
  have h2 := hmin (ρ x.1) ⟨x.1, h1, rfl⟩
  have h3 := hρ x hx
  rw [e'] at h3
  omega
 rw [this]; rfl
theorem ix_zero {f : Nat → Int} (h : ∃ k : Fin 64, f k.val = 0) : ∃ k : Fin 64, ixOf (fun y => (0 : Int) == y) (lof f) = (k.val : Int) ∧ f k.val = 0 := by
 unfold ixOf
 cases hx : (lof f).findIdx? (fun y => (0 : Int) == y) with
 | none =>
  obtain ⟨k, hk⟩ := h
  rw [List.findIdx?_eq_none_iff] at hx
  have := hx (f k.val) (List.mem_of_getElem? (J7 f k.isLt))
  rw [hk] at this; simp at this
 | some i =>
  obtain ⟨h1, h2, _⟩ := List.findIdx?_eq_some_iff_getElem.1 hx
  rw [Jq] at h1
  refine ⟨⟨i, h1⟩, rfl, ?_⟩
  have h3 : (lof f)[i]? = some (f i) := J7 f h1
  rw [List.getElem?_eq_getElem (by rw [Jq]; exact h1)] at h3
  simp only [Option.some.injEq] at h3
  rw [h3] at h2
  have : (0 : Int) = f i := by simpa using h2
  exact this.symm
theorem lfB_start (ps : List Pr) (srt : List (Fin 64)) (k : Fin 64) : ((lof (lfA ps srt)).set k.val (-1)) = lof (lfB ps srt k 0) := by
 rw [lof_set]
 apply JB
 intro i hi
 unfold lfB lfA
 by_cases e : i = k.val
 ·subst e; simp
 ·rw [if_neg e]
  have : ((srt ++ [k]).any fun j => j.val == i) = srt.any fun j => j.val == i := by
   rw [List.any_append]
   have : (k.val == i) = false := by simpa using fun h => e h.symm
   simp [this]
  rw [this]
  simp [cFrom]
theorem lfB_end (ps : List Pr) (srt : List (Fin 64)) (k : Fin 64) (hk : k ∉ srt) : lof (lfB ps srt k ps.length) = lof (lfA ps (srt ++ [k])) := by
 apply JB
 intro i hi
 unfold lfB lfA
 split
 ·rfl
 ·have : cOut ps srt i = cOut ps (srt ++ [k]) i + cFrom ps k i := by
   unfold cOut cFrom
   refine Y2 fun x _ => ?_
   have e1 : (srt ++ [k]).contains x.1 = (srt.contains x.1 || x.1 == k) := by
    rw [Bool.eq_iff_iff]; simp
   have e2 : (x.1 == k) = true → srt.contains x.1 = false := fun h => by
    have : x.1 = k := by simpa using h
    rw [this]; simpa using hk
   rw [e1]
   cases h1 : (x.2.val == i) <;> cases h2 : srt.contains x.1 <;> cases h3 : (x.1 == k) <;> simp_all
  rw [List.take_length]
  omega
theorem lfB_no {ps : List Pr} {srt : List (Fin 64)} {kk : Fin 64} {k : Nat} (h : k < ps.length) (hx : (ps.getD k pz0).1 ≠ kk) : lof (lfB ps srt kk (k + 1)) = lof (lfB ps srt kk k) := by
 apply JB
 intro i hi
 unfold lfB
 have e := YR h kk i
 rw [if_neg (fun h => hx h.1)] at e
 rw [e]
theorem lfB_yes {ps : List Pr} {srt : List (Fin 64)} {kk : Fin 64} {k : Nat} (ht : Topo ps srt) (hz : lfA ps srt kk.val = 0) (h : k < ps.length) (hx : (ps.getD k pz0).1 = kk) :
  (lof (lfB ps srt kk k)).set (ps.getD k pz0).2.val (lfB ps srt kk k (ps.getD k pz0).2.val - 1) = lof (lfB ps srt kk (k + 1)) := by
 obtain ⟨h1, h2⟩ := zero_of hz
 have hmem : ps.getD k pz0 ∈ ps := by
  rw [List.getD, List.getElem?_eq_getElem h]; exact List.getElem_mem h
 have hn : (ps.getD k pz0).2 ∉ srt ++ [kk] := by
  intro hm
  rcases List.mem_append.1 hm with hm | hm
  ·obtain ⟨i, hi, e⟩ := List.mem_iff_getElem.1 hm
   obtain ⟨j, hj, hs⟩ := ht.up i _ (by rw [List.getElem?_eq_getElem hi, e]) _ hmem rfl
   rw [hx] at hs
   exact h1 (List.mem_of_getElem? hs)
  ·have : (ps.getD k pz0).2 = kk := by simpa using hm
   exact h1 (hx ▸ h2 _ hmem this)
 rw [lof_set]
 apply JB
 intro i hi
 by_cases e : i = (ps.getD k pz0).2.val
 ·subst e
  rw [if_pos rfl]
  have hc : ((srt ++ [kk]).any fun j => j.val == (ps.getD k pz0).2.val) = false := by rw [any_val]; simpa using hn
  unfold lfB
  have e := YR h kk (ps.getD k pz0).2.val
  rw [if_pos ⟨hx, rfl⟩] at e
  rw [hc, e]
  simp only [Bool.false_eq_true, if_false]
  omega
 ·rw [if_neg e]
  unfold lfB
  have e2 := YR h kk i
  rw [if_neg (fun h => e h.2)] at e2
  rw [e2]
theorem lfB_rng (ps : List Pr) (srt : List (Fin 64)) (kk : Fin 64) (k i : Nat) : -1 - (ps.length : Int) ≤ lfB ps srt kk k i ∧ lfB ps srt kk k i ≤ ps.length := by
 unfold lfB
 split
 ·omega
 ·have := c_le ps (fun x => x.2.val == i && !srt.contains x.1)
  have h2 := c_le (ps.take k) (fun x => x.2.val == i && (x.1 == kk))
  rw [List.length_take] at h2
  unfold cOut cFrom; omega
theorem Topo.all {ps : List Pr} {srt : List (Fin 64)} (h : Topo ps srt) (hl : 64 ≤ srt.length) : ∀ k, k ∈ srt := by
 intro k
 apply Classical.byContradiction
 intro hk
 have := nodup_le (List.nodup_cons.2 ⟨hk, h.nd⟩) (fun x _ => List.mem_finRange x)
 simp at this; omega
end Go.Lx
/- What lies above and below each element of an acyclic relation, element after element in its order. No program in sight. -/
namespace Go.Lx
open Go
inductive Rch (ps : List Pr) : Fin 64 → Fin 64 → Prop
 | one {a b : Fin 64} : (a, b) ∈ ps → Rch ps a b
 | snoc {a c b : Fin 64} : Rch ps a c → (c, b) ∈ ps → Rch ps a b
theorem rch_last {ps : List Pr} {c b : Fin 64} : Rch ps c b ↔ ∃ a, (a, b) ∈ ps ∧ (c = a ∨ Rch ps c a) := by
 constructor
 ·intro h
  cases h with
  | one h => exact ⟨c, h, .inl rfl⟩
  | snoc h1 h2 => exact ⟨_, h2, .inr h1⟩
 ·rintro ⟨a, h, rfl | h2⟩
  ·exact .one h
  ·exact .snoc h2 h
def dlO (ps : List Pr) (b : Fin 64) : List (Fin 64) := (ps.filter fun x => x.2 == b).map (·.1)
theorem mem_dl {ps : List Pr} {a b : Fin 64} : a ∈ dlO ps b ↔ (a, b) ∈ ps := by
 simp only [dlO, List.mem_map, List.mem_filter, beq_iff_eq]
 constructor
 ·rintro ⟨x, ⟨h1, h2⟩, h3⟩
  have : x = (a, b) := Prod.ext h3 h2
  exact this ▸ h1
 ·exact fun h => ⟨(a, b), ⟨h, rfl⟩, rfl⟩
theorem dl_succ {ps : List Pr} {k : Nat} (h : k < ps.length) (b : Fin 64) : dlO (ps.take (k + 1)) b = if b = (ps.getD k pz0).2 then dlO (ps.take k) b ++ [(ps.getD k pz0).1] else dlO (ps.take k) b := by
 rw [takeS h]
 generalize ps.getD k pz0 = y
 by_cases e : b = y.2
 ·rw [if_pos e]; simp [dlO, List.filter_append, e]
 ·rw [if_neg e]
  have : (y.2 == b) = false := by simpa using fun h => e h.symm
  simp [dlO, List.filter_append, List.filter_cons, this]
def xsO (la : List SV) (i : Nat) : W64 := (la.getD i sz).x
theorem xs_set {la : List SV} {i : Nat} {s : SV} (h : i < la.length) (t : Nat) : xsO (la.set i s) t = if t = i then s.x else xsO la t := by
 unfold xsO
 simp only [List.getD, List.getElem?_set]
 by_cases e : i = t
 ·subst e; simp [h]
 ·rw [if_neg e, if_neg (fun h => e h.symm)]
def AbOk (ps : List Pr) (srt : List (Fin 64)) (j : Nat) (f : Nat → W64) : Prop := ∀ b c : Fin 64, (f b.val).getLsbD c.val = true ↔ b ∈ srt.take j ∧ Rch ps c b
def BeOk (ps : List Pr) (srt : List (Fin 64)) (j : Nat) (f : Nat → W64) : Prop := ∀ a c : Fin 64, (f a.val).getLsbD c.val = true ↔ c ∈ srt.take j ∧ Rch ps a c
theorem AbOk.start {ps : List Pr} {srt : List (Fin 64)} {f : Nat → W64} (h : ∀ i, i < 64 → f i = 0) : AbOk ps srt 0 f := fun b c => by
 rw [h _ b.isLt]; simp
theorem BeOk.start {ps : List Pr} {srt : List (Fin 64)} {f : Nat → W64} (h : ∀ i, i < 64 → f i = 0) : BeOk ps srt 0 f := fun b c => by
 rw [h _ b.isLt]; simp
def upA (ps : List Pr) (f : Nat → W64) (b : Fin 64) (m : Nat) : W64 := ((dlO ps b).take m).foldl (fun x a => (x ||| f a.val) ||| oneW a.val) (f b.val)
theorem upA_zero (ps : List Pr) (f : Nat → W64) (b : Fin 64) : upA ps f b 0 = f b.val := rfl
theorem upA_succ {ps : List Pr} {f : Nat → W64} {b a : Fin 64} {m : Nat} (h : (dlO ps b)[m]? = some a) : upA ps f b (m + 1) = (upA ps f b m ||| f a.val) ||| oneW a.val := by
 have : (dlO ps b).take (m + 1) = (dlO ps b).take m ++ [a] := by rw [List.take_add_one, h]; rfl
 rw [upA, this, List.foldl_append]; rfl
theorem fold_bit (f : Nat → W64) (c : Fin 64) : ∀ (l : List (Fin 64)) (x : W64), (l.foldl (fun x a => (x ||| f a.val) ||| oneW a.val) x).getLsbD c.val = true ↔ x.getLsbD c.val = true ∨ ∃ a ∈ l, c = a ∨ (f a.val).getLsbD c.val = true
 | [], x => by simp
 | a :: l, x => by
  rw [List.foldl_cons, fold_bit f c l]
  have e : (oneW a.val).getLsbD c.val = decide (c = a) := by
   rw [Z3 _ _ a.isLt]
   by_cases h : c = a
   ·subst h; simp
   ·have : c.val ≠ a.val := fun e => h (Fin.ext e)
    simp [h, this]
  simp only [BitVec.getLsbD_or, e, Bool.or_eq_true, decide_eq_true_eq, List.mem_cons]
  constructor
  ·rintro (((h | h) | h) | ⟨a', h1, h2⟩)
   ·exact .inl h
   ·exact .inr ⟨a, .inl rfl, .inr h⟩
   ·exact .inr ⟨a, .inl rfl, .inl h⟩
   ·exact .inr ⟨a', .inr h1, h2⟩
  ·rintro (h | ⟨a', rfl | h1, h2⟩)
   ·exact .inl (.inl (.inl h))
   ·rcases h2 with h2 | h2
    ·exact .inl (.inr h2)
    ·exact .inl (.inl (.inr h2))
   ·exact .inr ⟨a', h1, h2⟩
theorem JC {α : Type} {l : List α} {j : Nat} {b : α} (h : l[j]? = some b) : l.take (j + 1) = l.take j ++ [b] := by rw [List.take_add_one, h]; rfl
theorem not_in_take {l : List (Fin 64)} (hn : l.Nodup) {j : Nat} {b : Fin 64} (h : l[j]? = some b) : b ∉ l.take j := by
 intro hm
 have h2 : (l.take (j + 1)).Nodup := hn.sublist (List.take_sublist _ _)
 rw [JC h, List.nodup_append] at h2
 exact h2.2.2 b hm b (by simp) rfl
theorem AbOk.next {ps : List Pr} {srt : List (Fin 64)} {j : Nat} {b : Fin 64} {f g : Nat → W64} (h : AbOk ps srt j f) (ht : Topo ps srt) (hb : srt[j]? = some b) (hg : ∀ i, i < 64 → g i = if i = b.val then upA ps f b (dlO ps b).length else f i) : AbOk ps srt (j + 1) g := by
 intro b' c
 have hnb := not_in_take ht.nd hb
 rw [hg _ b'.isLt, JC hb]
 by_cases e : b' = b
 ·subst e
  rw [if_pos rfl, upA, List.take_length, fold_bit]
  constructor
  ·rintro (h1 | ⟨a, ha, h1⟩)
   ·exact absurd ((h b' c).1 h1).1 hnb
   ·refine ⟨by simp, rch_last.2 ⟨a, mem_dl.1 ha, ?_⟩⟩
    rcases h1 with h1 | h1
    ·exact .inl h1
    ·exact .inr ((h a c).1 h1).2
  ·rintro ⟨_, h1⟩
   obtain ⟨a, ha, h2⟩ := rch_last.1 h1
   refine .inr ⟨a, mem_dl.2 ha, ?_⟩
   rcases h2 with h2 | h2
   ·exact .inl h2
   ·obtain ⟨i, hi, hs⟩ := ht.up j b' hb (a, b') ha rfl
    exact .inr ((h a c).2 ⟨by rw [List.mem_iff_getElem?]; exact ⟨i, by rw [List.getElem?_take, if_pos hi]; exact hs⟩, h2⟩)
 ·have : ¬ b'.val = b.val := fun e' => e (Fin.ext e')
  rw [if_neg this, h b' c]
  simp [e]
theorem mem_val {x : W64} {t : Fin 64} : ((t.val : Int) ∈ memW x 64) ↔ x.getLsbD t.val = true := by
 unfold memW
 simp only [List.mem_map, List.mem_filter, List.mem_range]
 constructor
 ·rintro ⟨i, ⟨_, h2⟩, h3⟩
  have : i = t.val := by omega
  exact this ▸ h2
 ·exact fun h => ⟨t.val, ⟨t.isLt, h⟩, rfl⟩
theorem BeOk.next {ps : List Pr} {srt : List (Fin 64)} {j : Nat} {b : Fin 64} {f g k : Nat → W64} (h : BeOk ps srt j f) (ht : Topo ps srt) (hb : srt[j]? = some b) (ha : AbOk ps srt (j + 1) k) (hg : ∀ i, i < 64 → g i = if (i : Int) ∈ memW (k b.val) 64 then f i ||| oneW b.val else f i) : BeOk ps srt (j + 1) g := by
 intro a c
 have hin : b ∈ srt.take (j + 1) := by rw [JC hb]; simp
 have hm : ((a.val : Int) ∈ memW (k b.val) 64) ↔ Rch ps a b := by
  rw [mem_val, ha b a]; exact ⟨fun h => h.2, fun h => ⟨hin, h⟩⟩
 have e : (oneW b.val).getLsbD c.val = decide (c = b) := by
  rw [Z3 _ _ b.isLt]
  by_cases h : c = b
  ·subst h; simp
  ·have : c.val ≠ b.val := fun e => h (Fin.ext e)
   simp [h, this]
 rw [hg _ a.isLt, JC hb]
 by_cases hr : Rch ps a b
 ·rw [if_pos (hm.2 hr)]
  simp only [BitVec.getLsbD_or, e, Bool.or_eq_true, decide_eq_true_eq, h a c, List.mem_append, List.mem_singleton]
  constructor
  ·rintro (⟨h1, h2⟩ | rfl)
   ·exact ⟨.inl h1, h2⟩
   ·exact ⟨.inr rfl, hr⟩
  ·rintro ⟨h1 | h1, h2⟩
   ·exact .inl ⟨h1, h2⟩
   ·exact .inr h1
 ·rw [if_neg (fun h => hr (hm.1 h)), h a c]
  simp only [List.mem_append, List.mem_singleton]
  constructor
  ·rintro ⟨h1, h2⟩; exact ⟨.inl h1, h2⟩
  ·rintro ⟨h1 | rfl, h2⟩
   ·exact ⟨h1, h2⟩
   ·exact absurd h2 hr
def BelS (ps : List Pr) (f : Nat → W64) : Prop := ∀ a c : Fin 64, (f a.val).getLsbD c.val = true ↔ Rch ps a c
theorem BeOk.done {ps : List Pr} {srt : List (Fin 64)} {f : Nat → W64} (h : BeOk ps srt 64 f) (ht : Topo ps srt) (hl : srt.length = 64) : BelS ps f := fun a c => by
 rw [h a c, List.take_of_length_le (by omega)]
 exact ⟨fun h => h.2, fun h => ⟨ht.all (by omega) c, h⟩⟩
def AboS (ps : List Pr) (f : Nat → W64) : Prop := ∀ b c : Fin 64, (f b.val).getLsbD c.val = true ↔ Rch ps c b
theorem AbOk.done {ps : List Pr} {srt : List (Fin 64)} {f : Nat → W64} (h : AbOk ps srt 64 f) (ht : Topo ps srt) (hl : srt.length = 64) : AboS ps f := fun b c => by
 rw [h b c, List.take_of_length_le (by omega)]
 exact ⟨fun h => h.2, fun h => ⟨ht.all (by omega) b, h⟩⟩
theorem be_step {l : List Int} {i : Nat} {y : Int} (hn : l.Nodup) (h : l[i]? = some y) (f : Nat → W64) (b : Nat) (t : Nat) :
  (if (t : Int) ∈ l.take (i + 1) then f t ||| oneW b else f t) = if (t : Int) = y then f t ||| oneW b else if (t : Int) ∈ l.take i then f t ||| oneW b else f t := by
 rw [JC h]
 by_cases e : (t : Int) = y
 ·simp [e]
 ·simp [e]
end Go.Lx
/- Slices that are made in a region that draws; a slice of own slices, their blocks apart; what holds cells is not touched where marks are shut. Nothing of a program stands here. -/
namespace Go.Lx
open Go Go.RowKit
section
variable {α : Type} {enc : α → List Value} {s : Nat} {T e : TypeId} {by_ : Nat} {z : Value} {β : Prop} {P : Program} {fr : Fr} {w : World} {c : Nat → Nat} {ops : Array Oper} {d : Nat} {ty : TypeId} {pos : String} {after : Array Edge} {kc : Nat}
theorem OpC_make {x y : Operand} {m : Nat} (x0 : α) (he : EncOk enc s) (ht : ElT P T e s by_ z) (hz : z.cells.toList = enc x0) (hx : ev fr x = .int .i64 (m : Int)) (hy : ev fr y = .int .i64 (m : Int)) (hb : m * by_ ≤ 140737488355328) :
  OpC β kc P ops ⟨some d, .makeSlice T x y, ty, pos, after, none⟩ fr w c (fun v w c => ∃ a, v = .slice a m m ∧ postOwn enc s e kc (List.replicate m x0) v w c) := by
 obtain ⟨i, hi, hzz, hs, hby⟩ := ht.inf
 have hm : m ≤ 140737488355328 := Nat.le_trans (Nat.le_mul_of_pos_right _ ht.bp) hb
 have hbi : (i.bytes : Int) * (m : Int) ≤ 281474976710656 := by
  rw [hby, ← Int.natCast_mul, Nat.mul_comm]; omega
 have hr := run_make (P := P) w T e i z ht.sl hi hzz .i64 .i64 (m : Int) (m : Int) (by omega) (Int.le_refl _) hbi (by omega)
 rw [hs] at hr
 simp only [Int.toNat_natCast] at hr
 refine .inl ⟨rfl, .inl ⟨.slice (some ⟨w.heap.size, 0, none⟩) m m, w.alloc (.cells (madeCells z.cells (m * s)) e), newC c w kc, .inl ⟨?_, rfl⟩, StepC.ext (Ext.alloc _ _) fun _ hb => ZQ hb, _, rfl, ⟨⟨by rw [Zz he], .inr ⟨w.heap.size, m, _, by simp, Nat.zero_le _, heap_alloc_new w _, by simp, by unfold maxLen; omega, size_madeCells _ _, ?_⟩⟩, ?_⟩⟩⟩
 ·simp [execOp, hx, hy, hr]
 ·rw [Z7 (x := x0) he hz, List.take_of_length_le (by rw [Zz he]; simp)]
 ·intro g hg
  simp [Value.ownBlock] at hg
  subst hg
  exact Z6 (Nat.le_refl _)
end
theorem Own.notBox {α : Type} {enc : α → List Value} {k : Nat} {D : Nat → Prop} {e T : TypeId} {w : World} {v : Value} {l : List α} {b : Nat} {cs : List Value} (h : Own enc k e D w v l) (hb : Box w b T cs) (hne : e ≠ T) : ∀ g, v.ownBlock = some g → g ≠ b := by
 intro g hg e1
 subst e1
 rcases h.row.2 with ⟨h1, _⟩ | ⟨g', cap, cur, h1, _, h3, _⟩
 ·rw [h1] at hg; simp [Value.ownBlock] at hg
 ·rw [h1] at hg
  simp [Value.ownBlock] at hg
  subst hg
  have : w.heap[g']? = some (.cells cs.toArray T) := hb
  rw [this] at h3
  simp at h3
  exact hne h3.2.symm
def postNew {α : Type} (enc : α → List Value) (s : Nat) (e : TypeId) (w0 : World) (n : Nat) (l : List α) : PostC := fun v w c => ∃ g, v = .slice (some ⟨g, 0, none⟩) n n ∧ w0.heap.size ≤ g ∧ c g = 0 ∧ Own enc s e (fun b => b = g) w v l
theorem postNew_stable {α : Type} {enc : α → List Value} {s n : Nat} {e : TypeId} {w0 : World} {l : List α} {kc : Nat} : StableC kc (postNew enc s e w0 n l) := by
 rintro v w c w' c' q hq hx ⟨g, h1, h2, h3, h4⟩
 subst h1
 have hlt : g < w.heap.size := h4.lt g rfl
 exact ⟨g, rfl, h2, (hx.col g hlt).trans h3, h4.keepD hx.bel fun b _ hb hd => hd.1 (by rw [← hd.2, hb]; exact h3)⟩
theorem OpC_new {α : Type} {enc : α → List Value} {s : Nat} {T e : TypeId} {by_ : Nat} {z : Value} {β : Prop} {P : Program} {fr : Fr} {w w0 : World} {c : Nat → Nat} {ops : Array Oper} {d : Nat} {ty : TypeId} {pos : String} {after : Array Edge} {x y : Operand} {m : Nat} (x0 : α) (hw : w0.heap.size ≤ w.heap.size) (he : EncOk enc s) (ht : ElT P T e s by_ z) (hz : z.cells.toList = enc x0) (hx : ev fr x = .int .i64 (m : Int)) (hy : ev fr y = .int .i64 (m : Int)) (hb : m * by_ ≤ 140737488355328) :
  OpC β 0 P ops ⟨some d, .makeSlice T x y, ty, pos, after, none⟩ fr w c (postNew enc s e w0 m (List.replicate m x0)) := by
 obtain ⟨i, hi, hzz, hs, hby⟩ := ht.inf
 have hm : m ≤ 140737488355328 := Nat.le_trans (Nat.le_mul_of_pos_right _ ht.bp) hb
 have hbi : (i.bytes : Int) * (m : Int) ≤ 281474976710656 := by
  rw [hby, ← Int.natCast_mul, Nat.mul_comm]; omega
 have hr := run_make (P := P) w T e i z ht.sl hi hzz .i64 .i64 (m : Int) (m : Int) (by omega) (Int.le_refl _) hbi (by omega)
 rw [hs] at hr
 simp only [Int.toNat_natCast] at hr
 refine .inl ⟨rfl, .inl ⟨.slice (some ⟨w.heap.size, 0, none⟩) m m, w.alloc (.cells (madeCells z.cells (m * s)) e), newC c w 0, .inl ⟨?_, rfl⟩, StepC.ext (Ext.alloc _ _) fun _ hb => ZQ hb, w.heap.size, rfl, hw, Z6 (Nat.le_refl _), ⟨⟨by rw [Zz he], .inr ⟨w.heap.size, m, _, by simp, Nat.zero_le _, heap_alloc_new w _, by simp, by unfold maxLen; omega, size_madeCells _ _, ?_⟩⟩, ?_⟩⟩⟩
 ·simp [execOp, hx, hy, hr]
 ·rw [Z7 (x := x0) he hz, List.take_of_length_le (by rw [Zz he]; simp)]
 ·intro g hg
  simp [Value.ownBlock] at hg
  exact hg.symm
def postSt {α : Type} (enc : α → List Value) (s : Nat) (e : TypeId) (w0 : World) (n : Nat) (l : List α) (po kc : Nat) (T : TypeId) (cs : Value → List Value) : PostC := fun _ w c => ∃ g, (Box w po T (cs (.slice (some ⟨g, 0, none⟩) n n)) ∧ c po = kc) ∧ w0.heap.size ≤ g ∧ c g = 0 ∧ Own enc s e (fun b => b = g) w (.slice (some ⟨g, 0, none⟩) n n) l
theorem postSt_stable {α : Type} {enc : α → List Value} {s n : Nat} {e T : TypeId} {w0 : World} {l : List α} {po kc : Nat} {cs : Value → List Value} : StableC kc (postSt enc s e w0 n l po kc T cs) := by
 rintro v w c w' c' q hq hx ⟨g, h1, h2, h3, h4⟩
 have hlt : g < w.heap.size := h4.lt g rfl
 exact ⟨g, JS v w c w' c' q hq hx h1, h2, (hx.col g hlt).trans h3, h4.keepD hx.bel fun b _ hb hd => hd.1 (by rw [← hd.2, hb]; exact h3)⟩
theorem OpC_storeNew {α : Type} {enc : α → List Value} {s n : Nat} {e U T : TypeId} {β : Prop} {P : Program} {fr : Fr} {w w0 : World} {c : Nat → Nat} {ops : Array Oper} {ty : TypeId} {pos : String} {after : Array Edge} {kc : Nat} {x y : Operand} {b off g : Nat} {cs : List Value} {l : List α} {f : Value → List Value} (h0 : kc ≠ 0)
  (hs : ∀ w, (sizeOf U).run P w = .ok 1 w) (hx : ev fr x = .pointer (some ⟨b, off, none⟩)) (hy : ev fr y = .slice (some ⟨g, 0, none⟩) n n) (hb : Box w b T cs) (hc : c b = kc) (hle : Nat.ble (off + 1) cs.length = true) (hw : w0.heap.size ≤ g) (hcg : c g = 0) (ho : Own enc s e (fun b => b = g) w (.slice (some ⟨g, 0, none⟩) n n) l) (hne : e ≠ T) (hf : splice cs off [.slice (some ⟨g, 0, none⟩) n n] = f (.slice (some ⟨g, 0, none⟩) n n)) :
  OpC β kc P ops ⟨none, .store U x y, ty, pos, after, none⟩ fr w c (postSt enc s e w0 n l b kc T f) := by
 have hst := run_storeCells_at (P := P) b off T (Value.slice (some ⟨g, 0, none⟩) n n).cells.toList 0 cs.toArray w hb (by rw [List.size_toArray]; exact (by simpa using hle : off + 1 ≤ cs.length)) (oneL.mem rfl)
 simp only [Nat.add_zero] at hst
 refine .inl ⟨rfl, .inl ⟨lkV _ fr, w.setRow b (cs.toArray.toList.take off ++ (Value.slice (some ⟨g, 0, none⟩) n n).cells.toList ++ cs.toArray.toList.drop (off + (Value.slice (some ⟨g, 0, none⟩) n n).cells.toList.length)).toArray, c, .inr ⟨?_, rfl⟩, ⟨⟨rfl, rfl, rfl, by simp, fun j _ hj => setRow_other w b j _ (fun e => hj ⟨h0, by subst e; exact hc⟩), fun _ => Nat.le_refl _⟩, fun _ _ => rfl⟩, g, ⟨?_, hc⟩, hw, hcg, ho.blk (fun g2 _ hg => setRow_other w b g2 _ (ho.notBox hb hne g2 hg)) (fun g2 _ hg => ho.loc g2 hg)⟩⟩
 ·simp only [execOp, hx, hy, Instr.storeAt, Instr.sureAddr, storeVar, Sem.run_bind, Sem.run_pure, Result.andThen_ok, hs]
  simp [hst]
  rfl
 ·rw [← hf]; exact setRow_heap w b cs.toArray _ T _ hb
section
variable {α : Type} {enc : α → List Value} {k : Nat} {D : Nat → Prop} {e : TypeId} {w w' : World} {l : List α}
theorem Own.block {a : Option Addr} {m c : Nat} (h : Own enc k e D w (.slice a m c) l) (hm : 0 < m) : ∃ g, a = some ⟨g, 0, none⟩ ∧ D g ∧ g < w.heap.size ∧ Own enc k e (fun b => b = g) w (.slice (some ⟨g, 0, none⟩) m c) l := by
 rcases h.row.2 with ⟨h1, h2⟩ | ⟨g, cap, cur, h1, h2, h3, h4⟩
 ·simp at h1; omega
 ·have h0 := h1
  simp at h1
  obtain ⟨rfl, _, _⟩ := h1
  have hb : (Value.slice (some ⟨g, 0, none⟩) m c).ownBlock = some g := rfl
  exact ⟨g, rfl, h.loc g hb, h.lt g hb, h.at fun b _ hb' => by simp [Value.ownBlock] at hb'; exact hb'.symm⟩
theorem Yz : ∀ {ms : List Nat} {w : World} {b : Nat} {o : Obj}, Mks w ms → w.heap[b]? = some o → o ≠ .deferred (some []) → (shut w ms).heap[b]? = some o
 | [], _, _, _, _, h, _ => h
 | m :: r, w, b, o, hm, h, ho => by
  have hne : b ≠ m := fun e => ho (by rw [e, hm.2.1] at h; simpa using h.symm)
  have hk : Mks (w.putObj m (.deferred none)) r := hm.2.2.keep fun c hc => World.putObj_heap_other (fun e : c = m => hm.1 (by rw [← e]; exact hc))
  exact Yz (w := w.putObj m (.deferred none)) hk ((World.putObj_heap_other hne).trans h) ho
theorem Box.shut {ms : List Nat} {b : Nat} {T : TypeId} {cs : List Value} (h : Box w b T cs) (hm : Mks w ms) : Box (shut w ms) b T cs := Yz hm h (fun e => by cases e)
theorem Own.shut {ms : List Nat} {v : Value} (h : Own enc k e D w v l) (hm : Mks w ms) : Own enc k e D (shut w ms) v l := by
 refine ⟨⟨h.row.1, ?_⟩, h.loc⟩
 rcases h.row.2 with h' | ⟨g, cap, cur, h1, h2, h3, h4⟩
 ·exact .inl h'
 ·exact .inr ⟨g, cap, cur, h1, h2, Yz hm h3 (fun e => by cases e), h4⟩
end
def encF (x : Fin 64) : List Value := [.int .i64 (iv x)]
theorem J8 : EncOk encF 1 := ⟨by decide, fun _ => rfl, fun x u hu => by simp [encF] at hu; subst hu; rfl⟩
theorem sl_F {F : Nat → Prop} {w : World} {a : Option Addr} {c : Nat} {l : List (Fin 64)} (h : Sl encJ 1 F w a c (l.map iv)) : Sl encF 1 F w a c l :=
 ⟨by have := h.le; rwa [List.length_map] at this, h.cap, h.nil, fun i x hi => h.el i (iv x) (by rw [List.getElem?_map, hi]; rfl)⟩
structure DV where
 a : Option Addr
 c : Nat
 l : List (Fin 64)
def DV.v (d : DV) : Value := .slice d.a d.l.length d.c
def encDV (d : DV) : List Value := [.slice d.a d.l.length d.c]
theorem Y3 : EncOk encDV 1 := ⟨by decide, fun _ => rfl, fun x u hu => by simp [encDV] at hu; subst hu; rfl⟩
def dz : DV := ⟨none, 0, []⟩
def DirO (e : TypeId) (D : Nat → Prop) (w : World) (ds : List DV) : Prop := ∀ (i : Nat) (d : DV), ds[i]? = some d → Own encF 1 e D w d.v d.l ∧ ∀ (j : Nat) (d' : DV), ds[j]? = some d' → i ≠ j → ∀ g, d.v.ownBlock = some g → d'.v.ownBlock ≠ some g
section
variable {e : TypeId} {D : Nat → Prop} {w w' : World} {ds : List DV}
theorem DirO.start {n : Nat} : DirO e D w (List.replicate n dz) := by
 intro i d h
 have : d = dz := by
  have := List.mem_of_getElem? h
  simp at this; exact this.2
 subst this
 exact ⟨Own.nil _ _, fun j d' _ _ g hg => by simp [DV.v, dz, Value.ownBlock] at hg⟩
theorem DirO.keep {γ : Prop} {D' : Nat → Prop} (h : DirO e D w ds) (x : Bel γ D' w w') (hd : ∀ g, g < w.heap.size → D g → ¬ D' g) : DirO e D w' ds := fun i d hi => ⟨(h i d hi).1.keepD x hd, (h i d hi).2⟩
theorem DirO.ext {γ : Prop} (h : DirO e D w ds) (x : Ext γ w w') : DirO e D w' ds := h.keep x fun _ _ _ => id
theorem DirO.set {i : Nat} {d d' : DV} (h : DirO e D w ds) (hi : ds[i]? = some d) (hD : ∀ g, w.heap.size ≤ g → D g) (x : Bel False (fun g => d.v.ownBlock = some g ∨ w.heap.size ≤ g) w w') (ho : Own encF 1 e (fun g => d.v.ownBlock = some g ∨ w.heap.size ≤ g) w' d'.v d'.l) : DirO e D w' (ds.set i d') := by
 have hlt : i < ds.length := (List.getElem?_eq_some_iff.1 hi).1
 have hold : ∀ j d2, j ≠ i → ds[j]? = some d2 → Own encF 1 e D w' d2.v d2.l ∧ (∀ g, d2.v.ownBlock = some g → g < w.heap.size ∧ d.v.ownBlock ≠ some g) := by
  intro j d2 hj h2
  obtain ⟨h3, h4⟩ := h j d2 h2
  have hb : ∀ g, d2.v.ownBlock = some g → g < w.heap.size ∧ d.v.ownBlock ≠ some g := fun g hg => ⟨h3.lt g hg, h4 i d hi hj g hg⟩
  exact ⟨h3.keep x fun g hl hg hq => by
   rcases hq with hq | hq
   ·exact (hb g hg).2 hq
   ·omega, hb⟩
 have hnew : ∀ g, d'.v.ownBlock = some g → d.v.ownBlock = some g ∨ w.heap.size ≤ g := fun g hg => ho.loc g hg
 intro j d2 hj
 rw [List.getElem?_set] at hj
 by_cases ej : i = j
 ·subst ej
  rw [if_pos rfl, if_pos hlt] at hj
  simp only [Option.some.injEq] at hj
  subst hj
  refine ⟨ho.mono fun g hg hq => ?_, fun j2 d3 h3 hne g hg hg3 => ?_⟩
  ·rcases hq with hq | hq
   ·exact (h i d hi).1.loc g hq
   ·exact hD g hq
  ·rw [List.getElem?_set, if_neg hne] at h3
   have := (hold j2 d3 (fun e => hne e.symm) h3).2 g hg3
   rcases hnew g hg with hq | hq
   ·exact this.2 hq
   ·omega
 ·rw [if_neg ej] at hj
  obtain ⟨h1, h2⟩ := hold j d2 (fun e => ej e.symm) hj
  refine ⟨h1, fun j2 d3 h3 hne g hg hg3 => ?_⟩
  rw [List.getElem?_set] at h3
  by_cases e2 : i = j2
  ·subst e2
   rw [if_pos rfl, if_pos hlt] at h3
   simp only [Option.some.injEq] at h3
   subst h3
   rcases hnew g hg3 with hq | hq
   ·exact (h2 g hg).2 hq
   ·have := (h2 g hg).1; omega
  ·rw [if_neg e2] at h3
   exact (h j d2 hj).2 j2 d3 h3 hne g hg hg3
end
theorem dl_len (ps : List Pr) (k : Nat) (b : Fin 64) : (dlO (ps.take k) b).length ≤ ps.length := by
 unfold dlO
 rw [List.length_map]
 refine Nat.le_trans (List.length_filter_le _ _) ?_
 rw [List.length_take]; omega
theorem ds_set {ps : List Pr} {ds : List DV} {k : Nat} (h : k < ps.length) (hdl : ds.length = 64) (hds : ∀ b : Fin 64, (ds.getD b.val dz).l = dlO (ps.take k) b) (a : Option Addr) (c : Nat) :
  ∀ b : Fin 64, ((ds.set (ps.getD k pz0).2.val ⟨a, c, (ds.getD (ps.getD k pz0).2.val dz).l ++ [(ps.getD k pz0).1]⟩).getD b.val dz).l = dlO (ps.take (k + 1)) b := by
 intro b
 rw [dl_succ h]
 generalize ps.getD k pz0 = y
 simp only [List.getD, List.getElem?_set]
 by_cases e : b = y.2
 ·subst e
  have hl : y.2.val < ds.length := by have := y.2.isLt; omega
  have := hds y.2
  simp only [List.getD, List.getElem?_eq_getElem hl, Option.getD_some] at this
  simp [hl, this]
 ·have : ¬ y.2.val = b.val := fun e' => e (Fin.ext e'.symm)
  rw [if_neg this, if_neg e]
  exact hds b
theorem DirO.mono {e : TypeId} {D D' : Nat → Prop} {w : World} {ds : List DV} (h : DirO e D w ds) (hd : ∀ g, g < w.heap.size → D g → D' g) : DirO e D' w ds := fun i d hi => ⟨(h i d hi).1.mono hd, (h i d hi).2⟩
theorem wds_rep {F : Nat → Prop} {w : World} {n : Nat} : WdsAt F w (List.replicate n sz) := fun s hs => by
 have : s = sz := (List.mem_replicate.1 hs).2
 subst this
 exact Sl.none
theorem xs_rep {i : Nat} : xsO (List.replicate 64 sz) i = 0 := by
 unfold xsO
 simp only [List.getD, List.getElem?_replicate]
 split <;> rfl
theorem WdsAt.set {F : Nat → Prop} {w : World} {l : List SV} {i : Nat} {s : SV} (h : WdsAt F w l) (hs : Sl encU 1 F w s.a s.c (wl s.x)) : WdsAt F w (l.set i s) := fun t ht => by
 rcases List.mem_or_eq_of_mem_set ht with ht | rfl
 ·exact h t ht
 ·exact hs
theorem cell_shut {ms : List Nat} {w : World} {p : Addr} {v : Value} (h : w.cell? p = some v) (hm : Mks w ms) : (shut w ms).cell? p = some v := by
 have hlt := World.block_lt_of_cell? w p (by rw [h])
 obtain ⟨o, ho⟩ : ∃ o, w.heap[p.block]? = some o := ⟨_, Array.getElem?_eq_getElem hlt⟩
 by_cases e : o = .deferred (some [])
 ·subst e
  unfold World.cell? at h
  rw [ho] at h
  cases h
 ·rw [World.cell?_of_block (w := w) (a := p) ((Yz hm ho e).trans ho.symm)]
  exact h
theorem At.shut {ms : List Nat} {w : World} {b off : Nat} {cs : List Value} (h : At w b off cs) (hm : Mks w ms) : At (shut w ms) b off cs := fun i v hi => cell_shut (h i v hi) hm
theorem shut_size : ∀ (ms : List Nat) (w : World), (shut w ms).heap.size = w.heap.size
 | [], _ => rfl
 | b :: r, w => (shut_size r _).trans (by simp [World.putObj])
theorem Sl.shut {α : Type} {enc : α → List Value} {k c : Nat} {F : Nat → Prop} {ms : List Nat} {w : World} {a : Option Addr} {l : List α} (h : Sl enc k F w a c l) (hm : Mks w ms) : Sl enc k F (shut w ms) a c l :=
 ⟨h.le, h.cap, h.nil, fun i x hi => by
  obtain ⟨b, off, h1, h2, h3, h4⟩ := h.el i x hi
  exact ⟨b, off, h1, ⟨h2.1, by rw [shut_size]; exact h2.2⟩, h3.shut hm, h4⟩⟩
theorem WdsAt.shut {F : Nat → Prop} {ms : List Nat} {w : World} {l : List SV} (h : WdsAt F w l) (hm : Mks w ms) : WdsAt F (shut w ms) l := fun s hs => (h s hs).shut hm
theorem ds_start (ps : List Pr) : ∀ b : Fin 64, ((List.replicate 64 dz).getD b.val dz).l = dlO (ps.take 0) b := fun b => by
 simp only [List.getD, List.getElem?_replicate]
 split <;> rfl
theorem memW_nodup (x : W64) : (memW x 64).Nodup := by
 unfold memW
 exact List.Pairwise.map _ (fun a b (h : a ≠ b) => fun e => h (by omega)) (List.Pairwise.filter _ List.nodup_range)
theorem not_in_takeA {α : Type} {l : List α} (hn : l.Nodup) {j : Nat} {b : α} (h : l[j]? = some b) : b ∉ l.take j := by
 intro hm
 have h2 : (l.take (j + 1)).Nodup := hn.sublist (List.take_sublist _ _)
 rw [JC h, List.nodup_append] at h2
 exact h2.2.2 b hm b (by simp) rfl
end Go.Lx
/- Links: what a list of pairs reaches; the closure of a set of roles, of a hierarchy and of the reference. Nothing of a program stands here. -/
namespace Go.Lx
open Go
theorem YA {ps qs : List Pr} (h : ∀ x, x ∈ ps → x ∈ qs) {a b : Fin 64} (r : Rch ps a b) : Rch qs a b := by
 induction r with
 | one h1 => exact .one (h _ h1)
 | snoc _ h2 ih => exact .snoc ih (h _ h2)
theorem BelS.congr {ps qs : List Pr} (h : ∀ x, x ∈ ps ↔ x ∈ qs) {f : Nat → W64} (hb : BelS ps f) : BelS qs f := fun a c =>
 (hb a c).trans ⟨YA fun x => (h x).1, YA fun x => (h x).2⟩
theorem AboS.congr {ps qs : List Pr} (h : ∀ x, x ∈ ps ↔ x ∈ qs) {f : Nat → W64} (hb : AboS ps f) : AboS qs f := fun b c =>
 (hb b c).trans ⟨YA fun x => (h x).1, YA fun x => (h x).2⟩
theorem w64_ext {x y : W64} (h : ∀ c : Fin 64, x.getLsbD c.val = true ↔ y.getLsbD c.val = true) : x = y :=
 BitVec.eq_of_getLsbD_eq fun i hi => Bool.eq_iff_iff.2 (h ⟨i, hi⟩)
theorem setW_ex (p : Fin 64 → Prop) : ∃ x : W64, ∀ c : Fin 64, x.getLsbD c.val = true ↔ p c := by
 classical
 refine ⟨ofW (((List.finRange 64).filter fun c => decide (p c)).map iv), fun c => ?_⟩
 rw [ofW_get _ (by intro q hq; obtain ⟨a, _, rfl⟩ := List.mem_map.1 hq; exact ZT a)]
 rw [List.any_eq_true]
 constructor
 ·rintro ⟨q, hq, e⟩
  obtain ⟨a, ha, rfl⟩ := List.mem_map.1 hq
  have : a = c := iv_inj.1 (by unfold iv at e ⊢; simpa using e)
  subst this
  simpa using (List.mem_filter.1 ha).2
 ·intro h
  exact ⟨iv c, List.mem_map.2 ⟨c, List.mem_filter.2 ⟨List.mem_finRange c, by simpa using h⟩, rfl⟩, by simp [iv]⟩
def JunIs (L : List Pr) (r : Fin 64) (J : W64) : Prop := ∀ c : Fin 64, J.getLsbD c.val = true ↔ (c = r ∨ Rch L r c)
theorem JunIs.ex (L : List Pr) (r : Fin 64) : ∃ J, JunIs L r J := setW_ex _
theorem JunIs.uniq {L : List Pr} {r : Fin 64} {J K : W64} (h : JunIs L r J) (k : JunIs L r K) : J = K := w64_ext fun c => (h c).trans (k c).symm
def nxt (L : List Pr) (s : W64) : W64 := L.foldl (fun n x => if s.getLsbD x.1.val = true then n ||| oneW x.2.val else n) s
theorem nxt_aux (s : W64) (c : Fin 64) : ∀ (L : List Pr) (n : W64), (L.foldl (fun n x => if s.getLsbD x.1.val = true then n ||| oneW x.2.val else n) n).getLsbD c.val = true ↔ n.getLsbD c.val = true ∨ ∃ x ∈ L, s.getLsbD x.1.val = true ∧ x.2 = c
 | [], n => by simp
 | y :: L, n => by
  rw [List.foldl_cons, nxt_aux s c L]
  have e : (oneW y.2.val).getLsbD c.val = true ↔ y.2 = c := by
   rw [Z3 _ _ y.2.isLt, decide_eq_true_eq]
   exact ⟨fun h => Fin.ext h.symm, fun h => by rw [h]⟩
  by_cases h : s.getLsbD y.1.val = true
  ·rw [if_pos h, BitVec.getLsbD_or, Bool.or_eq_true, e]
   constructor
   ·rintro ((h1 | h1) | ⟨x, h1, h2⟩)
    ·exact .inl h1
    ·exact .inr ⟨y, by simp, h, h1⟩
    ·exact .inr ⟨x, by simp [h1], h2⟩
   ·rintro (h1 | ⟨x, h1, h2, h3⟩)
    ·exact .inl (.inl h1)
    ·rcases List.mem_cons.1 h1 with rfl | h1
     ·exact .inl (.inr h3)
     ·exact .inr ⟨x, h1, h2, h3⟩
  ·rw [if_neg h]
   constructor
   ·rintro (h1 | ⟨x, h1, h2⟩)
    ·exact .inl h1
    ·exact .inr ⟨x, by simp [h1], h2⟩
   ·rintro (h1 | ⟨x, h1, h2, h3⟩)
    ·exact .inl h1
    ·rcases List.mem_cons.1 h1 with rfl | h1
     ·exact absurd h2 h
     ·exact .inr ⟨x, h1, h2, h3⟩
theorem nxt_get (L : List Pr) (s : W64) (c : Fin 64) : (nxt L s).getLsbD c.val = true ↔ s.getLsbD c.val = true ∨ ∃ x ∈ L, s.getLsbD x.1.val = true ∧ x.2 = c := nxt_aux s c L s
structure JIn (L : List Pr) (r : Fin 64) (s : W64) : Prop where
 has : s.getLsbD r.val = true
 sub : ∀ c : Fin 64, s.getLsbD c.val = true → c = r ∨ Rch L r c
theorem JIn.start (L : List Pr) (r : Fin 64) : JIn L r (oneW r.val) := by
 have e : ∀ c : Fin 64, (oneW r.val).getLsbD c.val = true ↔ c = r := fun c => by
  rw [Z3 _ _ r.isLt, decide_eq_true_eq]
  exact ⟨fun h => Fin.ext h, fun h => by rw [h]⟩
 exact ⟨(e r).2 rfl, fun c h => .inl ((e c).1 h)⟩
theorem JIn.next {L : List Pr} {r : Fin 64} {s : W64} (h : JIn L r s) : JIn L r (nxt L s) := by
 refine ⟨(nxt_get _ _ _).2 (.inl h.has), fun c hc => ?_⟩
 rcases (nxt_get _ _ _).1 hc with hc | ⟨x, h1, h2, rfl⟩
 ·exact h.sub c hc
 ·rcases h.sub x.1 h2 with e | h3
  ·exact .inr (.one (by rw [← e]; exact h1))
  ·exact .inr (.snoc h3 h1)
theorem JIn.done {L : List Pr} {r : Fin 64} {s : W64} (h : JIn L r s) (e : nxt L s = s) : JunIs L r s := fun c => by
 refine ⟨h.sub c, ?_⟩
 rintro (rfl | hr)
 ·exact h.has
 ·induction hr with
  | one h1 => rw [← e]; exact (nxt_get _ _ _).2 (.inr ⟨_, h1, h.has, rfl⟩)
  | snoc _ h2 ih => rw [← e]; exact (nxt_get _ _ _).2 (.inr ⟨_, h2, ih, rfl⟩)
def ClosTo (L : List Pr) (s : W64) (k : Nat) (C : W64) : Prop := ∀ c : Fin 64, C.getLsbD c.val = true ↔ ∃ r : Fin 64, 1 ≤ r.val ∧ r.val < k ∧ s.getLsbD r.val = true ∧ (c = r ∨ Rch L r c)
theorem ClosTo.uniq {L : List Pr} {s : W64} {k : Nat} {C D : W64} (h : ClosTo L s k C) (h' : ClosTo L s k D) : C = D := w64_ext fun c => (h c).trans (h' c).symm
theorem ClosTo.start (L : List Pr) (s : W64) : ClosTo L s 1 0 := fun c => by
 constructor
 ·intro h; simp at h
 ·rintro ⟨r, h1, h2, _⟩; omega
theorem ClosTo.no {L : List Pr} {s : W64} {k : Nat} {C : W64} (h : ClosTo L s k C) (hk : s.getLsbD k = false) : ClosTo L s (k + 1) C := fun c => by
 rw [h c]
 constructor
 ·rintro ⟨r, h1, h2, h3⟩; exact ⟨r, h1, by omega, h3⟩
 ·rintro ⟨r, h1, h2, h3, h4⟩
  have : r.val ≠ k := fun e => by rw [e, hk] at h3; cases h3
  exact ⟨r, h1, by omega, h3, h4⟩
structure HOk (o : OV) (L : List Pr) : Prop where
 n : o.n = 64
 ps : ∀ x, x ∈ o.pairs ↔ x ∈ L
 le : o.pairs.length ≤ L.length
 be : BelS L (xsO o.below)
 ab : AboS L (xsO o.above)
theorem HOk.jun {o : OV} {L : List Pr} (h : HOk o L) {r : Fin 64} (hr : 1 ≤ r.val) : JunIs L r (junO o r.val) := fun c => by
 have h1 := r.isLt
 unfold junO belO
 rw [if_pos ⟨by omega, by omega⟩, if_pos ⟨by omega, by rw [h.n]; omega⟩, Int.toNat_natCast, BitVec.getLsbD_or, Bool.or_eq_true, Z3 _ _ h1, decide_eq_true_eq]
 show (xsO o.below r.val).getLsbD c.val = true ∨ _ ↔ _
 rw [h.be r c]
 constructor
 ·rintro (h2 | h2)
  ·exact .inr h2
  ·exact .inl (Fin.ext h2)
 ·rintro (rfl | h2)
  ·exact .inr rfl
  ·exact .inl h2
theorem closH_get (H : Option OV) (c : Fin 64) : ∀ (l : List Int) (x : W64), (l.foldl (fun x r => x ||| junH H r) x).getLsbD c.val = true ↔ x.getLsbD c.val = true ∨ ∃ r ∈ l, (junH H r).getLsbD c.val = true
 | [], x => by simp
 | y :: l, x => by
  rw [List.foldl_cons, closH_get H c l, BitVec.getLsbD_or, Bool.or_eq_true]
  constructor
  ·rintro ((h | h) | ⟨r, h1, h2⟩)
   ·exact .inl h
   ·exact .inr ⟨y, by simp, h⟩
   ·exact .inr ⟨r, by simp [h1], h2⟩
  ·rintro (h | ⟨r, h1, h2⟩)
   ·exact .inl (.inl h)
   ·rcases List.mem_cons.1 h1 with rfl | h1
    ·exact .inl (.inr h2)
    ·exact .inr ⟨r, h1, h2⟩
def closW (o : OV) (s : W64) : W64 := closH (some o) (memW s 64)
theorem HOk.clos {o : OV} {L : List Pr} (h : HOk o L) (s : W64) : ClosTo L s 64 (closW o s) := fun c => by
 unfold closW closH
 rw [closH_get]
 constructor
 ·rintro (h1 | ⟨r, h1, h2⟩)
  ·simp at h1
  ·obtain ⟨h3, h4⟩ := memW_ok s r h1
   obtain ⟨k, rfl⟩ : ∃ k : Fin 64, r = (k.val : Int) := ⟨⟨r.toNat, by omega⟩, by simp; omega⟩
   have h5 : 1 ≤ k.val := by
    rcases Nat.eq_zero_or_pos k.val with e | e
    ·exfalso
     have : junH (some o) (k.val : Int) = 0 := by
      show junO o (k.val : Int) = 0
      unfold junO; rw [if_neg (by omega)]
     rw [this] at h2; simp at h2
    ·exact e
   exact ⟨k, h5, k.isLt, (mem_val).1 h1, (h.jun h5 c).1 h2⟩
 ·rintro ⟨r, h1, _, h3, h4⟩
  exact .inr ⟨(r.val : Int), mem_val.2 h3, (h.jun h1 c).2 h4⟩
section
variable {o : OV} {L : List Pr} (h : HOk o L)
include h
theorem HOk.mono {s t : W64} (hs : ∀ i, s.getLsbD i = true → t.getLsbD i = true) : subW (closW o s) (closW o t) = true := by
 refine sub_iff.2 fun i hi => ?_
 rcases Nat.lt_or_ge i 64 with hl | hl
 ·obtain ⟨r, h1, h2, h3, h4⟩ := (h.clos s ⟨i, hl⟩).1 hi
  exact (h.clos t ⟨i, hl⟩).2 ⟨r, h1, h2, hs _ h3, h4⟩
 ·rw [BitVec.getLsbD_of_ge _ _ hl] at hi; cases hi
end
structure LkOk (L : List Pr) (ρ : Fin 64 → Nat) : Prop where
 rk : ∀ x ∈ L, ρ x.1 < ρ x.2
 nd : L.Nodup
 po : ∀ x ∈ L, 1 ≤ x.1.val ∧ 1 ≤ x.2.val
theorem LkOk.nil (ρ : Fin 64 → Nat) : LkOk [] ρ := ⟨by simp, List.nodup_nil, by simp⟩
def InsP (L : List Pr) (x : Pr) (M : List Pr) : Prop := ∃ i, i ≤ L.length ∧ M = L.take i ++ x :: L.drop i
theorem InsP.mem {L M : List Pr} {x : Pr} (h : InsP L x M) (y : Pr) : y ∈ M ↔ y = x ∨ y ∈ L := by
 obtain ⟨i, _, rfl⟩ := h
 have e : y ∈ L ↔ y ∈ L.take i ∨ y ∈ L.drop i := by rw [← List.mem_append, List.take_append_drop]
 rw [e, List.mem_append, List.mem_cons]
 constructor
 ·rintro (h | h | h)
  ·exact .inr (.inl h)
  ·exact .inl h
  ·exact .inr (.inr h)
 ·rintro (h | h | h)
  ·exact .inr (.inl h)
  ·exact .inl h
  ·exact .inr (.inr h)
theorem InsP.len {L M : List Pr} {x : Pr} (h : InsP L x M) : M.length = L.length + 1 := by
 obtain ⟨i, hi, rfl⟩ := h
 simp; omega
theorem LkOk.ins {L M : List Pr} {ρ : Fin 64 → Nat} {x : Pr} (h : LkOk L ρ) (hi : InsP L x M) (hn : x ∉ L) (hr : ρ x.1 < ρ x.2) (hp : 1 ≤ x.1.val ∧ 1 ≤ x.2.val) : LkOk M ρ := by
 refine ⟨fun y hy => ?_, ?_, fun y hy => ?_⟩
 ·rcases (hi.mem y).1 hy with rfl | hy
  ·exact hr
  ·exact h.rk y hy
 ·obtain ⟨i, _, rfl⟩ := hi
  have e := h.nd
  rw [← List.take_append_drop i L, List.nodup_append] at e
  obtain ⟨e1, e2, e3⟩ := e
  rw [List.nodup_append, List.nodup_cons]
  refine ⟨e1, ⟨fun hx => hn (List.mem_of_mem_drop hx), e2⟩, fun a ha b hb => ?_⟩
  rcases List.mem_cons.1 hb with rfl | hb
  ·rintro rfl; exact hn (List.mem_of_mem_take ha)
  ·exact e3 a ha b hb
 ·rcases (hi.mem y).1 hy with rfl | hy
  ·exact hp
  ·exact h.po y hy
