/- Several texts in one file. -/
import Derived.Test.YtndlnfdaeipifaaGreatDoorExt
import Derived.Test.YtndlnfdaeipifaaGreatDoorSv
import Derived.Test.YtndlnfdaeipifaaGreatDoorSlx
import Derived.Laws.Pointers
/- Pairs of numbers below 64. Nothing of a program stands here. -/
namespace Go.Lx
open Go
set_option linter.unusedSimpArgs false
set_option linter.unusedVariables false
set_option linter.unnecessarySimpa false
abbrev Pr := Fin 64 × Fin 64
def iv (x : Fin 64) : Int := (x.val : Int)
def encPr (p : Pr) : List Value := [.int .i64 (iv p.1), .int .i64 (iv p.2)]
theorem encPr_ok : EncOk encPr 2 := ⟨by decide, fun _ => rfl, fun x u hu => by
  simp [encPr] at hu
  rcases hu with rfl | rfl <;> rfl⟩
def pz0 : Pr := (0, 0)
theorem iv_ge (x : Fin 64) : 0 ≤ iv x ∧ iv x < 64 := by unfold iv; have := x.isLt; omega
theorem iv_inj {x y : Fin 64} : iv x = iv y ↔ x = y := by
  unfold iv
  constructor
  · intro h; exact Fin.ext (by omega)
  · rintro rfl; rfl
theorem iv_beq (x y : Fin 64) : (iv x == iv y) = (x == y) := by
  rw [Bool.eq_iff_iff, beq_iff_eq, beq_iff_eq, iv_inj]
def cmpPr (p q : Pr) : Int := if (iv p.1 != iv q.1) = true then iv p.1 - iv q.1 else iv p.2 - iv q.2
theorem cmpPr_is : IsCmp cmpPr where
  eq p q := by
    unfold cmpPr
    split
    · rename_i h
      have h1 : iv p.1 ≠ iv q.1 := by simpa using h
      constructor
      · intro e; omega
      · rintro rfl; exact absurd rfl h1
    · rename_i h
      have h1 : iv p.1 = iv q.1 := by simpa using h
      constructor
      · intro e
        have h2 : iv p.2 = iv q.2 := by omega
        exact Prod.ext (iv_inj.1 h1) (iv_inj.1 h2)
      · rintro rfl; omega
  anti p q := by
    unfold cmpPr
    by_cases h : iv p.1 = iv q.1
    · rw [if_neg (by simpa using h.symm), if_neg (by simpa using h)]; omega
    · rw [if_pos (by simpa using fun e => h e.symm), if_pos (by simpa using h)]; omega
  tr p q r := by
    unfold cmpPr
    by_cases h : iv p.1 = iv q.1 <;> by_cases h' : iv q.1 = iv r.1 <;> by_cases h'' : iv p.1 = iv r.1 <;>
      (try rw [if_neg (by simpa using h)]) <;> (try rw [if_pos (by simpa using h)]) <;> (try rw [if_neg (by simpa using h')]) <;> (try rw [if_pos (by simpa using h')]) <;> (try rw [if_neg (by simpa using h'')]) <;> (try rw [if_pos (by simpa using h'')]) <;> omega
end Go.Lx
/- Pointers and nil; a checked type. Nothing of a program stands here. -/
namespace Go.Lx
open Go Go.RowKit
set_option linter.unusedSimpArgs false
set_option linter.unusedVariables false
set_option linter.unnecessarySimpa false
section
variable {P : Program} {fr : Fr} {w : World} {d : Option Nat} {t : TypeId} {ps : String} {af : Array Edge} {g : Option (Nat × Bool)} {x y z : Operand} {T K E U : TypeId}
theorem o_nilc {v : Addr} (hx : ev fr x = .pointer (some v)) : xop P fr w ⟨d, .nilCheck x, t, ps, af, g⟩ = .ok (.value (.pointer (some v))) w := by
  simp [xop, execOp, hx]
theorem pointee_of {tp : TypeId} (hT : P.underlying T = some (.pointer tp)) : P.underlying T = some (.pointer (P.pointee T)) := by
  have : P.pointee T = tp := by unfold Program.pointee; rw [hT]
  rw [this]; exact hT
theorem o_peq {a : Option Addr} {tp : TypeId} (hT : P.underlying T = some (.pointer tp)) (hx : ev fr x = .pointer a) (hy : ev fr y = .pointer none) : xop P fr w ⟨d, .binOp .eql T x y U, t, ps, af, g⟩ = .ok (.value (.bool a.isNone)) w := by
  have := run_eql_pointer_nil (P := P) (w := w) T a (pointee_of hT)
  simp only [xop, execOp, hx, hy, eqGuard]
  simp [this]
theorem o_pne {a : Option Addr} {tp : TypeId} (hT : P.underlying T = some (.pointer tp)) (hx : ev fr x = .pointer a) (hy : ev fr y = .pointer none) : xop P fr w ⟨d, .binOp .neq T x y U, t, ps, af, g⟩ = .ok (.value (.bool !a.isNone)) w := by
  have := run_neq_pointer_nil (P := P) (w := w) T a (pointee_of hT)
  simp only [xop, execOp, hx, hy, eqGuard]
  simp [this]
end
end Go.Lx
/- An order in memory: its block, its pairs, the sets above and below each element. Nothing of a program stands here. -/
namespace Go.Lx
open Go Go.RowKit
set_option linter.unusedSimpArgs false
set_option linter.unusedVariables false
set_option linter.unnecessarySimpa false
structure OV where
  n : Nat
  ap : Option Addr
  cp : Nat
  pairs : List Pr
  aa : Option Addr
  ca : Nat
  above : List SV
  ab : Option Addr
  cb : Nat
  below : List SV
  asp : Option Addr
  csp : Nat
  sorted : List Int
def encOd (o : OV) : List Value := [.int .i64 (o.n : Int), .slice o.ap o.pairs.length o.cp, .slice o.aa o.above.length o.ca, .slice o.ab o.below.length o.cb, .slice o.asp o.sorted.length o.csp]
def WdsAt (F : Nat → Prop) (w : World) (l : List SV) : Prop := ∀ s ∈ l, Sl encU 1 F w s.a s.c (wl s.x)
structure OdAt (F : Nat → Prop) (w : World) (p : Nat) (o : OV) : Prop where
  blk : F p
  at' : At w p 0 (encOd o)
  pr : Sl encPr 2 F w o.ap o.cp o.pairs
  ab : Sl encSV 1 F w o.aa o.ca o.above
  be : Sl encSV 1 F w o.ab o.cb o.below
  wa : WdsAt F w o.above
  wb : WdsAt F w o.below
  la : o.above.length = o.n
  lb : o.below.length = o.n
  hn : o.n ≤ 64
section
variable {F F' D : Nat → Prop} {γ : Prop} {w w' : World} {p : Nat} {o : OV}
theorem WdsAt.keep {l : List SV} (h : WdsAt F w l) (x : Bel γ D w w') (hd : ∀ b, b < w.heap.size → F b → ¬ D b) : WdsAt F w' l := fun s hs => (h s hs).keep x hd
theorem WdsAt.mono {l : List SV} (h : WdsAt F w l) (hd : ∀ b, b < w.heap.size → F b → F' b) : WdsAt F' w l := fun s hs => (h s hs).mono hd
theorem WdsAt.ext {l : List SV} (h : WdsAt F w l) (x : Ext γ w w') : WdsAt F w' l := fun s hs => (h s hs).ext x
theorem OdAt.lt (h : OdAt F w p o) : p < w.heap.size := h.at'.lt
theorem OdAt.keep (h : OdAt F w p o) (x : Bel γ D w w') (hd : ∀ b, b < w.heap.size → F b → ¬ D b) : OdAt F w' p o :=
  ⟨h.blk, h.at'.keep x (hd p h.lt h.blk), h.pr.keep x hd, h.ab.keep x hd, h.be.keep x hd, h.wa.keep x hd, h.wb.keep x hd, h.la, h.lb, h.hn⟩
theorem OdAt.ext (h : OdAt F w p o) (x : Ext γ w w') : OdAt F w' p o := h.keep x fun _ _ _ => id
theorem OdAt.mono (h : OdAt F w p o) (hd : ∀ b, b < w.heap.size → F b → F' b) : OdAt F' w p o :=
  ⟨hd p h.lt h.blk, h.at', h.pr.mono hd, h.ab.mono hd, h.be.mono hd, h.wa.mono hd, h.wb.mono hd, h.la, h.lb, h.hn⟩
end
def postSV (F : Nat → Prop) (e : W64) : Post := fun v w => ∃ a c, v = .agg (encSV ⟨a, c, e⟩).toArray ∧ Sl encU 1 F w a c (wl e)
theorem postSV_stable (F : Nat → Prop) (e : W64) : Stable (postSV F e) := fun _ _ _ ⟨a, c, h1, h2⟩ x => ⟨a, c, h1, h2.ext x⟩
@[irreducible] def belO (o : OV) (a : Int) : W64 := if 0 ≤ a ∧ a < (o.n : Int) then (o.below.getD a.toNat sz).x else 0
@[irreducible] def junO (o : OV) (r : Int) : W64 := if 1 ≤ r ∧ r ≤ 63 then belO o r ||| oneW r.toNat else 0
def HrAt (F : Nat → Prop) (w : World) (v : Value) : Option OV → Prop
  | none => v = .pointer none
  | some o => ∃ ph po, v = .pointer (some ⟨ph, 0, none⟩) ∧ F ph ∧ At w ph 0 [.pointer (some ⟨po, 0, none⟩)] ∧ OdAt F w po o
def junH (H : Option OV) (r : Int) : W64 := match H with
  | none => 0
  | some o => junO o r
def closH (H : Option OV) (l : List Int) : W64 := l.foldl (fun x r => x ||| junH H r) 0
section
variable {F F' D : Nat → Prop} {γ : Prop} {w w' : World} {v : Value} {H : Option OV}
theorem HrAt.keep (h : HrAt F w v H) (x : Bel γ D w w') (hd : ∀ b, b < w.heap.size → F b → ¬ D b) : HrAt F w' v H := by
  cases H with
  | none => exact h
  | some o =>
    obtain ⟨ph, po, h1, h2, h3, h4⟩ := h
    exact ⟨ph, po, h1, h2, h3.keep x (hd ph h3.lt h2), h4.keep x hd⟩
theorem HrAt.ext (h : HrAt F w v H) (x : Ext γ w w') : HrAt F w' v H := h.keep x fun _ _ _ => id
theorem HrAt.mono (h : HrAt F w v H) (hd : ∀ b, b < w.heap.size → F b → F' b) : HrAt F' w v H := by
  cases H with
  | none => exact h
  | some o =>
    obtain ⟨ph, po, h1, h2, h3, h4⟩ := h
    exact ⟨ph, po, h1, hd ph h3.lt h2, h3, h4.mono hd⟩
end
end Go.Lx
/- The order of an acyclic relation: what the lists hold while elements are taken one after the other. No program in sight. -/
namespace Go.Lx
open Go
set_option linter.unusedSimpArgs false
set_option linter.unusedVariables false
set_option linter.unnecessarySimpa false
def lof {α : Type} (f : Nat → α) : List α := (List.range 64).map f
theorem lof_len {α : Type} (f : Nat → α) : (lof f).length = 64 := by simp [lof]
theorem lof_get {α : Type} (f : Nat → α) {i : Nat} (h : i < 64) : (lof f)[i]? = some (f i) := by simp [lof, h]
theorem lof_congr {α : Type} {f g : Nat → α} (h : ∀ i, i < 64 → f i = g i) : lof f = lof g := by
  unfold lof
  apply List.map_congr_left
  intro i hi
  exact h i (by simpa using hi)
theorem lof_set {α : Type} (f : Nat → α) (i : Nat) (v : α) : (lof f).set i v = lof fun j => if j = i then v else f j := by
  apply List.ext_getElem?
  intro j
  by_cases hj : j < 64
  · rw [lof_get _ hj, List.getElem?_set]
    by_cases e : i = j
    · subst e; simp [lof_len, hj]
    · rw [if_neg e, lof_get _ hj, if_neg (fun h => e h.symm)]
  · rw [List.getElem?_eq_none (by simp [lof_len]; omega), List.getElem?_eq_none (by simp [lof_len]; omega)]
theorem rep_lof {α : Type} (x : α) : List.replicate 64 x = lof fun _ => x := by
  apply List.ext_getElem?
  intro j
  by_cases hj : j < 64
  · rw [lof_get _ hj, List.getElem?_replicate, if_pos hj]
  · rw [List.getElem?_eq_none (by simp; omega), List.getElem?_eq_none (by simp [lof_len]; omega)]
theorem nodup_le {α : Type} [BEq α] [LawfulBEq α] : ∀ {l m : List α}, l.Nodup → (∀ x ∈ l, x ∈ m) → l.length ≤ m.length
  | [], m, _, _ => Nat.zero_le _
  | x :: l, m, h, hs => by
    obtain ⟨h1, h2⟩ := List.nodup_cons.1 h
    have hx := hs x (by simp)
    have := nodup_le (m := m.erase x) h2 (fun y hy => (List.mem_erase_of_ne (fun e : y = x => h1 (by rw [← e]; exact hy))).2 (hs y (by simp [hy])))
    rw [List.length_erase_of_mem hx] at this
    have := List.length_pos_of_mem hx
    simp; omega
theorem countP_split {α : Type} {p q r : α → Bool} : ∀ {l : List α}, (∀ x ∈ l, p x = (q x || r x) ∧ (q x && r x) = false) → l.countP p = l.countP q + l.countP r
  | [], _ => rfl
  | x :: l, h => by
    have ih := countP_split (l := l) (fun y hy => h y (by simp [hy]))
    obtain ⟨h1, h2⟩ := h x (by simp)
    simp only [List.countP_cons, ih, h1]
    cases hq : q x <;> cases hr : r x <;> simp_all <;> omega
def cIn (l : List Pr) (i : Nat) : Nat := l.countP fun x => x.2.val == i
def cOut (l : List Pr) (srt : List (Fin 64)) (i : Nat) : Nat := l.countP fun x => x.2.val == i && !srt.contains x.1
def cFrom (l : List Pr) (k : Fin 64) (i : Nat) : Nat := l.countP fun x => x.2.val == i && (x.1 == k)
theorem takeS {l : List Pr} {k : Nat} (h : k < l.length) : l.take (k + 1) = l.take k ++ [l.getD k pz0] := by
  rw [List.take_add_one, List.getElem?_eq_getElem h]
  simp [List.getD, List.getElem?_eq_getElem h]
theorem cIn_succ {l : List Pr} {k : Nat} (h : k < l.length) (i : Nat) : cIn (l.take (k + 1)) i = if i = (l.getD k pz0).2.val then cIn (l.take k) i + 1 else cIn (l.take k) i := by
  rw [takeS h, cIn, List.countP_append, ← cIn]
  generalize l.getD k pz0 = y
  by_cases e : i = y.2.val
  · rw [if_pos e]; simp [List.countP_cons, e]
  · rw [if_neg e]
    have : (y.2.val == i) = false := by simpa using fun h => e h.symm
    simp [List.countP_cons, this]
theorem cIn_set {l : List Pr} {k : Nat} (h : k < l.length) : (lof fun i => (cIn (l.take k) i : Int)).set (l.getD k pz0).2.val ((cIn (l.take k) (l.getD k pz0).2.val : Int) + 1) = lof fun i => (cIn (l.take (k + 1)) i : Int) := by
  rw [lof_set]
  apply lof_congr
  intro i _
  rw [cIn_succ h]
  by_cases e : i = (l.getD k pz0).2.val
  · rw [if_pos e, if_pos e, e]; rfl
  · rw [if_neg e, if_neg e]
theorem cFrom_succ {l : List Pr} {k : Nat} (h : k < l.length) (kk : Fin 64) (i : Nat) : cFrom (l.take (k + 1)) kk i = if (l.getD k pz0).1 = kk ∧ i = (l.getD k pz0).2.val then cFrom (l.take k) kk i + 1 else cFrom (l.take k) kk i := by
  rw [takeS h, cFrom, List.countP_append, ← cFrom]
  generalize l.getD k pz0 = y
  by_cases e : y.1 = kk ∧ i = y.2.val
  · rw [if_pos e]; simp [List.countP_cons, e.1, e.2]
  · rw [if_neg e]
    have : (y.2.val == i && (y.1 == kk)) = false := by
      cases h1 : (y.2.val == i && (y.1 == kk)) with
      | false => rfl
      | true =>
        simp at h1
        exact absurd ⟨h1.2, h1.1.symm⟩ e
    simp only [List.countP_cons, List.countP_nil, this]; simp
theorem c_le (l : List Pr) (p : Pr → Bool) : l.countP p ≤ l.length := List.countP_le_length
def lfA (ps : List Pr) (srt : List (Fin 64)) (i : Nat) : Int := if srt.any (fun j => j.val == i) then -1 else (cOut ps srt i : Int)
def lfB (ps : List Pr) (srt : List (Fin 64)) (kk : Fin 64) (k : Nat) (i : Nat) : Int := if (srt ++ [kk]).any (fun j => j.val == i) then -1 else (cOut ps srt i : Int) - (cFrom (ps.take k) kk i : Int)
structure Topo (ps : List Pr) (srt : List (Fin 64)) : Prop where
  nd : srt.Nodup
  up : ∀ i b, srt[i]? = some b → ∀ x ∈ ps, x.2 = b → ∃ j : Nat, j < i ∧ srt[j]? = some x.1
theorem Topo.nil (ps : List Pr) : Topo ps [] := ⟨List.nodup_nil, fun i b h => by simp at h⟩
theorem lfA_start (ps : List Pr) : (lof fun i => (cIn (ps.take ps.length) i : Int)) = lof (lfA ps []) := by
  apply lof_congr
  intro i _
  simp [lfA, cOut, cIn]
theorem any_val {srt : List (Fin 64)} {k : Fin 64} : (srt.any fun j => j.val == k.val) = srt.contains k := by
  rw [Bool.eq_iff_iff]
  simp only [List.any_eq_true, List.contains_iff_mem, beq_iff_eq]
  exact ⟨fun ⟨j, h1, h2⟩ => by rw [← Fin.ext h2]; exact h1, fun h => ⟨k, h, rfl⟩⟩
theorem zero_of {ps : List Pr} {srt : List (Fin 64)} {k : Fin 64} (h : lfA ps srt k.val = 0) : k ∉ srt ∧ ∀ x ∈ ps, x.2 = k → x.1 ∈ srt := by
  unfold lfA at h
  rw [any_val] at h
  cases hc : srt.contains k with
  | true => rw [hc] at h; simp at h
  | false =>
    rw [hc] at h
    simp only [Bool.false_eq_true, if_false] at h
    refine ⟨by simpa using hc, fun x hx e => ?_⟩
    have h0 : cOut ps srt k.val = 0 := by omega
    unfold cOut at h0
    rw [List.countP_eq_zero] at h0
    have := h0 x hx
    rw [e] at this
    simpa using this
theorem Topo.snoc {ps : List Pr} {srt : List (Fin 64)} {k : Fin 64} (h : Topo ps srt) (hz : lfA ps srt k.val = 0) : Topo ps (srt ++ [k]) := by
  obtain ⟨h1, h2⟩ := zero_of hz
  refine ⟨?_, ?_⟩
  · rw [List.nodup_append]
    refine ⟨h.nd, by simp, fun a ha b hb => ?_⟩
    simp at hb; subst hb
    exact fun e => h1 (e ▸ ha)
  · intro i b hi x hx e
    by_cases hl : i < srt.length
    · rw [List.getElem?_append_left hl] at hi
      obtain ⟨j, hj, hs⟩ := h.up i b hi x hx e
      exact ⟨j, hj, by rw [List.getElem?_append_left (by omega)]; exact hs⟩
    · have hi0 : i = srt.length := by
        have := (List.getElem?_eq_some_iff.1 hi).1
        simp at this; omega
      subst hi0
      simp at hi
      obtain ⟨j, hj, hs⟩ := List.mem_iff_getElem.1 (h2 x hx (e.trans hi.symm))
      exact ⟨j, hj, by rw [List.getElem?_append_left hj, List.getElem?_eq_getElem hj, hs]⟩
theorem zero_ex {ps : List Pr} {srt : List (Fin 64)} (ρ : Fin 64 → Nat) (hρ : ∀ x ∈ ps, ρ x.1 < ρ x.2) (hl : srt.length < 64) : ∃ k : Fin 64, lfA ps srt k.val = 0 := by
  have hex : ∃ k : Fin 64, k ∉ srt := by
    apply Classical.byContradiction
    intro hn
    have hall : ∀ k : Fin 64, k ∈ srt := fun k => Classical.byContradiction fun h => hn ⟨k, h⟩
    have := nodup_le (List.nodup_finRange 64) (fun k _ => hall k)
    simp at this; omega
  obtain ⟨m, ⟨k, hk, hm⟩, hmin⟩ := least_of (fun m => ∃ k : Fin 64, k ∉ srt ∧ ρ k = m) (by obtain ⟨k, hk⟩ := hex; exact ⟨ρ k, k, hk, rfl⟩)
  refine ⟨k, ?_⟩
  have hc : srt.contains k = false := by simpa using hk
  unfold lfA
  rw [any_val, hc]
  simp only [Bool.false_eq_true, if_false]
  have : cOut ps srt k.val = 0 := by
    unfold cOut
    rw [List.countP_eq_zero]
    intro x hx
    simp only [Bool.and_eq_true, beq_iff_eq, Bool.not_eq_true', not_and, Bool.not_eq_false]
    intro e
    have e' : x.2 = k := Fin.ext e
    apply Classical.byContradiction
    intro hx1
    have h1 : x.1 ∉ srt := by simpa using hx1
    have h2 := hmin (ρ x.1) ⟨x.1, h1, rfl⟩
    have h3 := hρ x hx
    rw [e'] at h3
    omega
  rw [this]; rfl
theorem ix_zero {f : Nat → Int} (h : ∃ k : Fin 64, f k.val = 0) : ∃ k : Fin 64, ixOf (fun y => (0 : Int) == y) (lof f) = (k.val : Int) ∧ f k.val = 0 := by
  unfold ixOf
  cases hx : (lof f).findIdx? (fun y => (0 : Int) == y) with
  | none =>
    obtain ⟨k, hk⟩ := h
    rw [List.findIdx?_eq_none_iff] at hx
    have := hx (f k.val) (List.mem_of_getElem? (lof_get f k.isLt))
    rw [hk] at this; simp at this
  | some i =>
    obtain ⟨h1, h2, _⟩ := List.findIdx?_eq_some_iff_getElem.1 hx
    rw [lof_len] at h1
    refine ⟨⟨i, h1⟩, rfl, ?_⟩
    have h3 : (lof f)[i]? = some (f i) := lof_get f h1
    rw [List.getElem?_eq_getElem (by rw [lof_len]; exact h1)] at h3
    simp only [Option.some.injEq] at h3
    rw [h3] at h2
    have : (0 : Int) = f i := by simpa using h2
    exact this.symm
theorem lfB_start (ps : List Pr) (srt : List (Fin 64)) (k : Fin 64) : ((lof (lfA ps srt)).set k.val (-1)) = lof (lfB ps srt k 0) := by
  rw [lof_set]
  apply lof_congr
  intro i hi
  unfold lfB lfA
  by_cases e : i = k.val
  · subst e; simp
  · rw [if_neg e]
    have : ((srt ++ [k]).any fun j => j.val == i) = srt.any fun j => j.val == i := by
      rw [List.any_append]
      have : (k.val == i) = false := by simpa using fun h => e h.symm
      simp [this]
    rw [this]
    simp [cFrom]
theorem lfB_end (ps : List Pr) (srt : List (Fin 64)) (k : Fin 64) (hk : k ∉ srt) : lof (lfB ps srt k ps.length) = lof (lfA ps (srt ++ [k])) := by
  apply lof_congr
  intro i hi
  unfold lfB lfA
  split
  · rfl
  · have : cOut ps srt i = cOut ps (srt ++ [k]) i + cFrom ps k i := by
      unfold cOut cFrom
      refine countP_split fun x _ => ?_
      have e1 : (srt ++ [k]).contains x.1 = (srt.contains x.1 || x.1 == k) := by
        rw [Bool.eq_iff_iff]; simp
      have e2 : (x.1 == k) = true → srt.contains x.1 = false := fun h => by
        have : x.1 = k := by simpa using h
        rw [this]; simpa using hk
      rw [e1]
      cases h1 : (x.2.val == i) <;> cases h2 : srt.contains x.1 <;> cases h3 : (x.1 == k) <;> simp_all
    rw [List.take_length]
    omega
theorem lfB_no {ps : List Pr} {srt : List (Fin 64)} {kk : Fin 64} {k : Nat} (h : k < ps.length) (hx : (ps.getD k pz0).1 ≠ kk) : lof (lfB ps srt kk (k + 1)) = lof (lfB ps srt kk k) := by
  apply lof_congr
  intro i hi
  unfold lfB
  have e := cFrom_succ h kk i
  rw [if_neg (fun h => hx h.1)] at e
  rw [e]
theorem lfB_yes {ps : List Pr} {srt : List (Fin 64)} {kk : Fin 64} {k : Nat} (ht : Topo ps srt) (hz : lfA ps srt kk.val = 0) (h : k < ps.length) (hx : (ps.getD k pz0).1 = kk) :
    (lof (lfB ps srt kk k)).set (ps.getD k pz0).2.val (lfB ps srt kk k (ps.getD k pz0).2.val - 1) = lof (lfB ps srt kk (k + 1)) := by
  obtain ⟨h1, h2⟩ := zero_of hz
  have hmem : ps.getD k pz0 ∈ ps := by
    rw [List.getD, List.getElem?_eq_getElem h]; exact List.getElem_mem h
  have hn : (ps.getD k pz0).2 ∉ srt ++ [kk] := by
    intro hm
    rcases List.mem_append.1 hm with hm | hm
    · obtain ⟨i, hi, e⟩ := List.mem_iff_getElem.1 hm
      obtain ⟨j, hj, hs⟩ := ht.up i _ (by rw [List.getElem?_eq_getElem hi, e]) _ hmem rfl
      rw [hx] at hs
      exact h1 (List.mem_of_getElem? hs)
    · have : (ps.getD k pz0).2 = kk := by simpa using hm
      exact h1 (hx ▸ h2 _ hmem this)
  rw [lof_set]
  apply lof_congr
  intro i hi
  by_cases e : i = (ps.getD k pz0).2.val
  · subst e
    rw [if_pos rfl]
    have hc : ((srt ++ [kk]).any fun j => j.val == (ps.getD k pz0).2.val) = false := by rw [any_val]; simpa using hn
    unfold lfB
    have e := cFrom_succ h kk (ps.getD k pz0).2.val
    rw [if_pos ⟨hx, rfl⟩] at e
    rw [hc, e]
    simp only [Bool.false_eq_true, if_false]
    omega
  · rw [if_neg e]
    unfold lfB
    have e2 := cFrom_succ h kk i
    rw [if_neg (fun h => e h.2)] at e2
    rw [e2]
theorem lfB_rng (ps : List Pr) (srt : List (Fin 64)) (kk : Fin 64) (k i : Nat) : -1 - (ps.length : Int) ≤ lfB ps srt kk k i ∧ lfB ps srt kk k i ≤ ps.length := by
  unfold lfB
  split
  · omega
  · have := c_le ps (fun x => x.2.val == i && !srt.contains x.1)
    have h2 := c_le (ps.take k) (fun x => x.2.val == i && (x.1 == kk))
    rw [List.length_take] at h2
    unfold cOut cFrom; omega
theorem Topo.all {ps : List Pr} {srt : List (Fin 64)} (h : Topo ps srt) (hl : 64 ≤ srt.length) : ∀ k, k ∈ srt := by
  intro k
  apply Classical.byContradiction
  intro hk
  have := nodup_le (List.nodup_cons.2 ⟨hk, h.nd⟩) (fun x _ => List.mem_finRange x)
  simp at this; omega
end Go.Lx
/- What lies above and below each element of an acyclic relation, element after element in its order. No program in sight. -/
namespace Go.Lx
open Go
set_option linter.unusedSimpArgs false
set_option linter.unusedVariables false
set_option linter.unnecessarySimpa false
inductive Rch (ps : List Pr) : Fin 64 → Fin 64 → Prop
  | one {a b : Fin 64} : (a, b) ∈ ps → Rch ps a b
  | snoc {a c b : Fin 64} : Rch ps a c → (c, b) ∈ ps → Rch ps a b
theorem rch_last {ps : List Pr} {c b : Fin 64} : Rch ps c b ↔ ∃ a, (a, b) ∈ ps ∧ (c = a ∨ Rch ps c a) := by
  constructor
  · intro h
    cases h with
    | one h => exact ⟨c, h, .inl rfl⟩
    | snoc h1 h2 => exact ⟨_, h2, .inr h1⟩
  · rintro ⟨a, h, rfl | h2⟩
    · exact .one h
    · exact .snoc h2 h
def dlO (ps : List Pr) (b : Fin 64) : List (Fin 64) := (ps.filter fun x => x.2 == b).map (·.1)
theorem mem_dl {ps : List Pr} {a b : Fin 64} : a ∈ dlO ps b ↔ (a, b) ∈ ps := by
  simp only [dlO, List.mem_map, List.mem_filter, beq_iff_eq]
  constructor
  · rintro ⟨x, ⟨h1, h2⟩, h3⟩
    have : x = (a, b) := Prod.ext h3 h2
    exact this ▸ h1
  · exact fun h => ⟨(a, b), ⟨h, rfl⟩, rfl⟩
theorem dl_succ {ps : List Pr} {k : Nat} (h : k < ps.length) (b : Fin 64) : dlO (ps.take (k + 1)) b = if b = (ps.getD k pz0).2 then dlO (ps.take k) b ++ [(ps.getD k pz0).1] else dlO (ps.take k) b := by
  rw [takeS h]
  generalize ps.getD k pz0 = y
  by_cases e : b = y.2
  · rw [if_pos e]; simp [dlO, List.filter_append, e]
  · rw [if_neg e]
    have : (y.2 == b) = false := by simpa using fun h => e h.symm
    simp [dlO, List.filter_append, List.filter_cons, this]
def xsO (la : List SV) (i : Nat) : W64 := (la.getD i sz).x
theorem xs_set {la : List SV} {i : Nat} {s : SV} (h : i < la.length) (t : Nat) : xsO (la.set i s) t = if t = i then s.x else xsO la t := by
  unfold xsO
  simp only [List.getD, List.getElem?_set]
  by_cases e : i = t
  · subst e; simp [h]
  · rw [if_neg e, if_neg (fun h => e h.symm)]
def AbOk (ps : List Pr) (srt : List (Fin 64)) (j : Nat) (f : Nat → W64) : Prop := ∀ b c : Fin 64, (f b.val).getLsbD c.val = true ↔ b ∈ srt.take j ∧ Rch ps c b
def BeOk (ps : List Pr) (srt : List (Fin 64)) (j : Nat) (f : Nat → W64) : Prop := ∀ a c : Fin 64, (f a.val).getLsbD c.val = true ↔ c ∈ srt.take j ∧ Rch ps a c
theorem AbOk.start {ps : List Pr} {srt : List (Fin 64)} {f : Nat → W64} (h : ∀ i, i < 64 → f i = 0) : AbOk ps srt 0 f := fun b c => by
  rw [h _ b.isLt]; simp
theorem BeOk.start {ps : List Pr} {srt : List (Fin 64)} {f : Nat → W64} (h : ∀ i, i < 64 → f i = 0) : BeOk ps srt 0 f := fun b c => by
  rw [h _ b.isLt]; simp
def upA (ps : List Pr) (f : Nat → W64) (b : Fin 64) (m : Nat) : W64 := ((dlO ps b).take m).foldl (fun x a => (x ||| f a.val) ||| oneW a.val) (f b.val)
theorem upA_zero (ps : List Pr) (f : Nat → W64) (b : Fin 64) : upA ps f b 0 = f b.val := rfl
theorem upA_succ {ps : List Pr} {f : Nat → W64} {b a : Fin 64} {m : Nat} (h : (dlO ps b)[m]? = some a) : upA ps f b (m + 1) = (upA ps f b m ||| f a.val) ||| oneW a.val := by
  have : (dlO ps b).take (m + 1) = (dlO ps b).take m ++ [a] := by rw [List.take_add_one, h]; rfl
  rw [upA, this, List.foldl_append]; rfl
theorem fold_bit (f : Nat → W64) (c : Fin 64) : ∀ (l : List (Fin 64)) (x : W64), (l.foldl (fun x a => (x ||| f a.val) ||| oneW a.val) x).getLsbD c.val = true ↔ x.getLsbD c.val = true ∨ ∃ a ∈ l, c = a ∨ (f a.val).getLsbD c.val = true
  | [], x => by simp
  | a :: l, x => by
    rw [List.foldl_cons, fold_bit f c l]
    have e : (oneW a.val).getLsbD c.val = decide (c = a) := by
      rw [oneW_get _ _ a.isLt]
      by_cases h : c = a
      · subst h; simp
      · have : c.val ≠ a.val := fun e => h (Fin.ext e)
        simp [h, this]
    simp only [BitVec.getLsbD_or, e, Bool.or_eq_true, decide_eq_true_eq, List.mem_cons]
    constructor
    · rintro (((h | h) | h) | ⟨a', h1, h2⟩)
      · exact .inl h
      · exact .inr ⟨a, .inl rfl, .inr h⟩
      · exact .inr ⟨a, .inl rfl, .inl h⟩
      · exact .inr ⟨a', .inr h1, h2⟩
    · rintro (h | ⟨a', rfl | h1, h2⟩)
      · exact .inl (.inl (.inl h))
      · rcases h2 with h2 | h2
        · exact .inl (.inr h2)
        · exact .inl (.inl (.inr h2))
      · exact .inr ⟨a', h1, h2⟩
theorem take_snoc {α : Type} {l : List α} {j : Nat} {b : α} (h : l[j]? = some b) : l.take (j + 1) = l.take j ++ [b] := by rw [List.take_add_one, h]; rfl
theorem not_in_take {l : List (Fin 64)} (hn : l.Nodup) {j : Nat} {b : Fin 64} (h : l[j]? = some b) : b ∉ l.take j := by
  intro hm
  have h2 : (l.take (j + 1)).Nodup := hn.sublist (List.take_sublist _ _)
  rw [take_snoc h, List.nodup_append] at h2
  exact h2.2.2 b hm b (by simp) rfl
theorem AbOk.next {ps : List Pr} {srt : List (Fin 64)} {j : Nat} {b : Fin 64} {f g : Nat → W64} (h : AbOk ps srt j f) (ht : Topo ps srt) (hb : srt[j]? = some b) (hg : ∀ i, i < 64 → g i = if i = b.val then upA ps f b (dlO ps b).length else f i) : AbOk ps srt (j + 1) g := by
  intro b' c
  have hnb := not_in_take ht.nd hb
  rw [hg _ b'.isLt, take_snoc hb]
  by_cases e : b' = b
  · subst e
    rw [if_pos rfl, upA, List.take_length, fold_bit]
    constructor
    · rintro (h1 | ⟨a, ha, h1⟩)
      · exact absurd ((h b' c).1 h1).1 hnb
      · refine ⟨by simp, rch_last.2 ⟨a, mem_dl.1 ha, ?_⟩⟩
        rcases h1 with h1 | h1
        · exact .inl h1
        · exact .inr ((h a c).1 h1).2
    · rintro ⟨_, h1⟩
      obtain ⟨a, ha, h2⟩ := rch_last.1 h1
      refine .inr ⟨a, mem_dl.2 ha, ?_⟩
      rcases h2 with h2 | h2
      · exact .inl h2
      · obtain ⟨i, hi, hs⟩ := ht.up j b' hb (a, b') ha rfl
        exact .inr ((h a c).2 ⟨by rw [List.mem_iff_getElem?]; exact ⟨i, by rw [List.getElem?_take, if_pos hi]; exact hs⟩, h2⟩)
  · have : ¬ b'.val = b.val := fun e' => e (Fin.ext e')
    rw [if_neg this, h b' c]
    simp [e]
theorem mem_val {x : W64} {t : Fin 64} : ((t.val : Int) ∈ memW x 64) ↔ x.getLsbD t.val = true := by
  unfold memW
  simp only [List.mem_map, List.mem_filter, List.mem_range]
  constructor
  · rintro ⟨i, ⟨_, h2⟩, h3⟩
    have : i = t.val := by omega
    exact this ▸ h2
  · exact fun h => ⟨t.val, ⟨t.isLt, h⟩, rfl⟩
theorem BeOk.next {ps : List Pr} {srt : List (Fin 64)} {j : Nat} {b : Fin 64} {f g k : Nat → W64} (h : BeOk ps srt j f) (ht : Topo ps srt) (hb : srt[j]? = some b) (ha : AbOk ps srt (j + 1) k) (hg : ∀ i, i < 64 → g i = if (i : Int) ∈ memW (k b.val) 64 then f i ||| oneW b.val else f i) : BeOk ps srt (j + 1) g := by
  intro a c
  have hin : b ∈ srt.take (j + 1) := by rw [take_snoc hb]; simp
  have hm : ((a.val : Int) ∈ memW (k b.val) 64) ↔ Rch ps a b := by
    rw [mem_val, ha b a]; exact ⟨fun h => h.2, fun h => ⟨hin, h⟩⟩
  have e : (oneW b.val).getLsbD c.val = decide (c = b) := by
    rw [oneW_get _ _ b.isLt]
    by_cases h : c = b
    · subst h; simp
    · have : c.val ≠ b.val := fun e => h (Fin.ext e)
      simp [h, this]
  rw [hg _ a.isLt, take_snoc hb]
  by_cases hr : Rch ps a b
  · rw [if_pos (hm.2 hr)]
    simp only [BitVec.getLsbD_or, e, Bool.or_eq_true, decide_eq_true_eq, h a c, List.mem_append, List.mem_singleton]
    constructor
    · rintro (⟨h1, h2⟩ | rfl)
      · exact ⟨.inl h1, h2⟩
      · exact ⟨.inr rfl, hr⟩
    · rintro ⟨h1 | h1, h2⟩
      · exact .inl ⟨h1, h2⟩
      · exact .inr h1
  · rw [if_neg (fun h => hr (hm.1 h)), h a c]
    simp only [List.mem_append, List.mem_singleton]
    constructor
    · rintro ⟨h1, h2⟩; exact ⟨.inl h1, h2⟩
    · rintro ⟨h1 | rfl, h2⟩
      · exact ⟨h1, h2⟩
      · exact absurd h2 hr
def BelS (ps : List Pr) (f : Nat → W64) : Prop := ∀ a c : Fin 64, (f a.val).getLsbD c.val = true ↔ Rch ps a c
theorem BeOk.done {ps : List Pr} {srt : List (Fin 64)} {f : Nat → W64} (h : BeOk ps srt 64 f) (ht : Topo ps srt) (hl : srt.length = 64) : BelS ps f := fun a c => by
  rw [h a c, List.take_of_length_le (by omega)]
  exact ⟨fun h => h.2, fun h => ⟨ht.all (by omega) c, h⟩⟩
def AboS (ps : List Pr) (f : Nat → W64) : Prop := ∀ b c : Fin 64, (f b.val).getLsbD c.val = true ↔ Rch ps c b
theorem AbOk.done {ps : List Pr} {srt : List (Fin 64)} {f : Nat → W64} (h : AbOk ps srt 64 f) (ht : Topo ps srt) (hl : srt.length = 64) : AboS ps f := fun b c => by
  rw [h b c, List.take_of_length_le (by omega)]
  exact ⟨fun h => h.2, fun h => ⟨ht.all (by omega) b, h⟩⟩
theorem be_step {l : List Int} {i : Nat} {y : Int} (hn : l.Nodup) (h : l[i]? = some y) (f : Nat → W64) (b : Nat) (t : Nat) :
    (if (t : Int) ∈ l.take (i + 1) then f t ||| oneW b else f t) = if (t : Int) = y then f t ||| oneW b else if (t : Int) ∈ l.take i then f t ||| oneW b else f t := by
  rw [take_snoc h]
  by_cases e : (t : Int) = y
  · simp [e]
  · simp [e]
end Go.Lx
