/- Several texts in one file. -/
import Derived.Test.YtgmpgfokblehdaaGreatDoorSe
set_option linter.unusedSimpArgs false
set_option linter.unusedVariables false
set_option linter.unnecessarySimpa false
/- Which roles cover a request, by the names of its path: plain law. Nothing of a program stands here. -/
namespace Go.Lx
open Go
def orW (m : List Ent) (q : Ent → Bool) : W64 := m.foldl (fun w e => if q e then w ||| oneW e.r.toNat else w) 0
theorem Y6 (m : List Ent) (e : Ent) (q : Ent → Bool) : orW (m ++ [e]) q = if q e then orW m q ||| oneW e.r.toNat else orW m q := by simp [orW]
theorem orW_congr {m : List Ent} {q q' : Ent → Bool} (h : ∀ e ∈ m, q e = q' e) : orW m q = orW m q' := by
 suffices ∀ (l : List Ent) (w : W64), (∀ e ∈ l, q e = q' e) → l.foldl (fun w e => if q e then w ||| oneW e.r.toNat else w) w = l.foldl (fun w e => if q' e then w ||| oneW e.r.toNat else w) w from this m 0 h
 intro l
 induction l with
 | nil => intro w _; rfl
 | cons e l ih =>
  intro w h
  rw [List.foldl_cons, List.foldl_cons, h e (by simp)]
  exact ih _ fun x hx => h x (by simp [hx])
theorem orW_aux {q : Ent → Bool} (i : Nat) (hi : i < 64) : ∀ (l : List Ent) (w : W64), (∀ e ∈ l, 1 ≤ e.r ∧ e.r ≤ 63) →
  ((l.foldl (fun w e => if q e then w ||| oneW e.r.toNat else w) w).getLsbD i = true ↔ w.getLsbD i = true ∨ ∃ e ∈ l, q e = true ∧ e.r = (i : Int))
 | [], w, _ => by simp
 | e :: l, w, h => by
  have he := h e (by simp)
  rw [List.foldl_cons, orW_aux i hi l _ (fun x hx => h x (by simp [hx]))]
  constructor
  ·rintro (h1 | ⟨x, hx, h1, h2⟩)
   ·split at h1
    ·rename_i hc
     rw [BitVec.getLsbD_or, Bool.or_eq_true, Z3 _ _ (show e.r.toNat < 64 by omega), decide_eq_true_eq] at h1
     rcases h1 with h1 | h1
     ·exact .inl h1
     ·exact .inr ⟨e, by simp, hc, by omega⟩
    ·exact .inl h1
   ·exact .inr ⟨x, by simp [hx], h1, h2⟩
  ·rintro (h1 | ⟨x, hx, h1, h2⟩)
   ·left
    split
    ·rw [BitVec.getLsbD_or, h1]; rfl
    ·exact h1
   ·rcases List.mem_cons.1 hx with rfl | hx
    ·left
     rw [if_pos h1, BitVec.getLsbD_or, Bool.or_eq_true, Z3 _ _ (show x.r.toNat < 64 by omega), decide_eq_true_eq]
     right; omega
    ·exact .inr ⟨x, hx, h1, h2⟩
theorem orW_or {m : List Ent} (hm : ∀ e ∈ m, 1 ≤ e.r ∧ e.r ≤ 63) {q q1 q2 : Ent → Bool} (h : ∀ e ∈ m, q e = (q1 e || q2 e)) : orW m q = orW m q1 ||| orW m q2 := by
 apply BitVec.eq_of_getLsbD_eq
 intro i hi
 rw [BitVec.getLsbD_or, Bool.eq_iff_iff, Bool.or_eq_true, orW, orW, orW, orW_aux i hi m 0 hm, orW_aux i hi m 0 hm, orW_aux i hi m 0 hm]
 constructor
 ·rintro (h1 | ⟨e, he, h1, h2⟩)
  ·exact .inl (.inl h1)
  ·rw [h e he, Bool.or_eq_true] at h1
   rcases h1 with h1 | h1
   ·exact .inl (.inr ⟨e, he, h1, h2⟩)
   ·exact .inr (.inr ⟨e, he, h1, h2⟩)
 ·rintro ((h1 | ⟨e, he, h1, h2⟩) | (h1 | ⟨e, he, h1, h2⟩))
  ·exact .inl h1
  ·exact .inr ⟨e, he, by rw [h e he, h1]; rfl, h2⟩
  ·exact .inl h1
  ·exact .inr ⟨e, he, by rw [h e he, h1, Bool.or_true], h2⟩
theorem orW_none {m : List Ent} {q : Ent → Bool} (h : ∀ e ∈ m, q e = false) : orW m q = 0 := by
 rw [orW_congr (q' := fun _ => false) h]
 unfold orW
 induction m with
 | nil => rfl
 | cons e m ih => rw [List.foldl_cons]; exact ih fun x hx => h x (by simp [hx])
def plW (m : List Ent) (ns : List Str) (a : Str) : W64 := orW m fun e => !e.p.deep && (splitL e.p.path == ns) && (e.p.act == a)
def dpW (m : List Ent) (ns : List Str) (a : Str) : W64 := orW m fun e => e.p.deep && (splitL e.p.path == ns) && (e.p.act == a)
def dpK (m : List Ent) (N : List Str) (a : Str) : Nat → W64
 | 0 => dpW m [] a
 | k + 1 => dpK m N a k ||| dpW m (N.take (k + 1)) a
theorem pre_take {x N : List Str} {k : Nat} (hk : k < N.length) : x.isPrefixOf (N.take (k + 1)) = (x.isPrefixOf (N.take k) || x == N.take (k + 1)) := by
 rw [Bool.eq_iff_iff, Bool.or_eq_true, List.isPrefixOf_iff_prefix, List.isPrefixOf_iff_prefix, beq_iff_eq]
 constructor
 ·intro h
  rcases Nat.lt_or_ge k x.length with hl | hl
  ·right
   refine h.eq_of_length ?_
   have := h.length_le
   rw [List.length_take] at this ⊢; omega
  ·left
   have h2 : N.take k <+: N.take (k + 1) := by
    rw [show N.take k = (N.take (k + 1)).take k by rw [List.take_take]; congr 1; omega]
    exact List.take_prefix _ _
   exact List.prefix_of_prefix_length_le h h2 (by rw [List.length_take]; omega)
 ·rintro (h | rfl)
  ·refine h.trans ?_
   rw [show N.take k = (N.take (k + 1)).take k by rw [List.take_take]; congr 1; omega]
   exact List.take_prefix _ _
  ·exact List.prefix_refl _
theorem dpK_or {m : List Ent} (hm : ∀ e ∈ m, 1 ≤ e.r ∧ e.r ≤ 63) (N : List Str) (a : Str) : ∀ k, k ≤ N.length → dpK m N a k = orW m fun e => e.p.deep && (splitL e.p.path).isPrefixOf (N.take k) && (e.p.act == a)
 | 0, _ => by
  unfold dpK dpW
  refine orW_congr fun e _ => ?_
  rw [List.take_zero]
  cases splitL e.p.path <;> rfl
 | k + 1, h => by
  unfold dpK
  rw [dpK_or hm N a k (by omega), dpW, ← orW_or hm (q := fun e => e.p.deep && (splitL e.p.path).isPrefixOf (N.take (k + 1)) && (e.p.act == a))]
  intro e _
  rw [pre_take (by omega)]
  cases e.p.deep <;> cases (e.p.act == a) <;> cases (splitL e.p.path).isPrefixOf (N.take k) <;> simp
theorem within_pre {s p : Str} (hs : splitOk s = true) (hp : splitOk p = true) : withinS s p = (splitL p).isPrefixOf (splitL s) := by
 rw [Bool.eq_iff_iff, within_iff, List.isPrefixOf_iff_prefix]
 exact ⟨fun h => h.2.2, fun h => ⟨hs, hp, h⟩⟩
theorem path_eq {s p : Str} (hs : splitOk s = true) (hp : splitOk p = true) : (p == s) = (splitL p == splitL s) := by
 rw [Bool.eq_iff_iff, beq_iff_eq, beq_iff_eq]
 exact ⟨fun h => by rw [h], fun h => split_inj hp hs h⟩
theorem OkG.rr {m : List Ent} (hm : OkG m) : ∀ e ∈ m, 1 ≤ e.r ∧ e.r ≤ 63 := fun e he => ⟨(hm.ve e he).1, (hm.ve e he).2.1⟩
theorem covS_eq {x : Perm} (hx : checkS x = 0) {a s : Str} (hs : splitOk s = true) : coversS x a s = ((x.act == a) && ((splitL x.path == splitL s) || (x.deep && (splitL x.path).isPrefixOf (splitL s)))) := by
 have hp := (check_path hx).1
 by_cases h : x.act = a
 ·rw [covers_mk hx h hs, within_pre hs hp, path_eq hs hp, beq_iff_eq.2 h, Bool.true_and]
 ·rw [beq_eq_false_iff_ne.2 h, Bool.false_and, Bool.eq_false_iff]
  exact fun q => h (Y5 q).2.1
theorem cov_end {m : List Ent} (hm : OkG m) {a s : Str} (hs : splitOk s = true) : covW m a s = dpK m (splitL s) a (splitL s).length ||| plW m (splitL s) a := by
 rw [dpK_or hm.rr _ _ _ (Nat.le_refl _), List.take_length, plW, ← orW_or hm.rr (q := fun e => coversS e.p a s)]
 ·rfl
 ·intro e he
  rw [covS_eq (hm.ve e he).2.2.2 hs]
  cases hd : e.p.deep <;> cases (e.p.act == a) <;> simp
  intro h
  rw [h]; exact List.prefix_refl _
theorem cov_cut {m : List Ent} (hm : OkG m) {a s : Str} (hs : splitOk s = true) {k : Nat} (hk : k < (splitL s).length) (hn : ∀ e ∈ m, ¬ (splitL s).take (k + 1) <+: splitL e.p.path) : covW m a s = dpK m (splitL s) a k := by
 rw [dpK_or hm.rr _ _ _ (Nat.le_of_lt hk)]
 refine orW_congr fun e he => ?_
 rw [covS_eq (hm.ve e he).2.2.2 hs]
 have h1 : (splitL e.p.path == splitL s) = false := beq_eq_false_iff_ne.2 fun h => hn e he (by rw [h]; exact List.take_prefix _ _)
 have h2 : (splitL e.p.path).isPrefixOf (splitL s) = (splitL e.p.path).isPrefixOf ((splitL s).take k) := by
  rw [Bool.eq_iff_iff, List.isPrefixOf_iff_prefix, List.isPrefixOf_iff_prefix]
  constructor
  ·intro h
   rcases Nat.lt_or_ge k (splitL e.p.path).length with hl | hl
   ·exact absurd (List.prefix_of_prefix_length_le (List.take_prefix _ _) h (by rw [List.length_take]; omega)) (hn e he)
   ·exact List.prefix_of_prefix_length_le h (List.take_prefix _ _) (by rw [List.length_take]; omega)
  ·intro h; exact h.trans (List.take_prefix _ _)
 rw [h1, h2]
 cases e.p.deep <;> cases (e.p.act == a) <;> simp
theorem cov_bad {m : List Ent} {a s : Str} (hs : splitOk s = false) : covW m a s = 0 :=
 orW_none fun e _ => Bool.eq_false_iff.2 fun h => by have := (Y5 h).2.2.1; rw [hs] at this; cases this
def exN (m : List Ent) (ns : List Str) : Prop := ns = [] ∨ ∃ e ∈ m, ns <+: splitL e.p.path
def exK (m : List Ent) (N : List Str) (k : Nat) (ns : List Str) : Prop := exN m ns ∨ ∃ j, j ≤ k ∧ ns = N.take j
theorem exK_zero {m : List Ent} {N ns : List Str} : exK m N 0 ns ↔ exN m ns := by
 constructor
 ·rintro (h | ⟨j, hj, rfl⟩)
  ·exact h
  ·obtain rfl : j = 0 := by omega
   exact .inl List.take_zero
 ·exact .inl
theorem exK_succ {m : List Ent} {N ns : List Str} {k : Nat} : exK m N (k + 1) ns ↔ exK m N k ns ∨ ns = N.take (k + 1) := by
 constructor
 ·rintro (h | ⟨j, hj, h⟩)
  ·exact .inl (.inl h)
  ·rcases Nat.lt_or_ge k j with hl | hl
   ·obtain rfl : j = k + 1 := by omega
    exact .inr h
   ·exact .inl (.inr ⟨j, hl, h⟩)
 ·rintro ((h | ⟨j, hj, h⟩) | h)
  ·exact .inl h
  ·exact .inr ⟨j, by omega, h⟩
  ·exact .inr ⟨k + 1, Nat.le_refl _, h⟩
theorem exK_same {m : List Ent} {N ns : List Str} {k : Nat} (h : exK m N k (N.take (k + 1))) : exK m N (k + 1) ns ↔ exK m N k ns :=
 exK_succ.trans ⟨fun q => q.elim id fun e => e ▸ h, .inl⟩
theorem exK_end {m : List Ent} {e : Ent} {ns : List Str} {k : Nat} (h : (splitL e.p.path).length ≤ k) : exK m (splitL e.p.path) k ns ↔ exN (m ++ [e]) ns := by
 constructor
 ·rintro (h | ⟨j, hj, rfl⟩)
  ·rcases h with h | ⟨x, hx, h⟩
   ·exact .inl h
   ·exact .inr ⟨x, List.mem_append_left _ hx, h⟩
  ·exact .inr ⟨e, by simp, List.take_prefix _ _⟩
 ·rintro (h | ⟨x, hx, h⟩)
  ·exact .inl (.inl h)
  ·rcases List.mem_append.1 hx with hx | hx
   ·exact .inl (.inr ⟨x, hx, h⟩)
   ·rw [List.mem_singleton.1 hx] at h
    exact .inr ⟨ns.length, Nat.le_trans h.length_le ‹_›, (List.prefix_iff_eq_take.1 h)⟩
theorem J9 {N : List Str} {k : Nat} (h : k < N.length) : N.take (k + 1) = N.take k ++ [N.getD k []] := by
 rw [List.take_succ_eq_append_getElem h]; simp [List.getD, h]
theorem plW_new {m : List Ent} {ns : List Str} (h : ¬ exN m ns) (a : Str) : plW m ns a = 0 := orW_none fun e he => by
 have : (splitL e.p.path == ns) = false := beq_eq_false_iff_ne.2 fun q => h (.inr ⟨e, he, by rw [q]; exact List.prefix_refl _⟩)
 simp only [this, Bool.and_false, Bool.false_and]
theorem dpW_new {m : List Ent} {ns : List Str} (h : ¬ exN m ns) (a : Str) : dpW m ns a = 0 := orW_none fun e he => by
 have : (splitL e.p.path == ns) = false := beq_eq_false_iff_ne.2 fun q => h (.inr ⟨e, he, by rw [q]; exact List.prefix_refl _⟩)
 simp only [this, Bool.and_false, Bool.false_and]
theorem plW_put {m : List Ent} {e : Ent} (h : e.p.deep = false) (z : List Str) (k : Str) : plW (m ++ [e]) z k = if z = splitL e.p.path ∧ k = e.p.act then plW m (splitL e.p.path) e.p.act ||| oneW e.r.toNat else plW m z k := by
 rw [plW, Y6]
 by_cases h1 : z = splitL e.p.path ∧ k = e.p.act
 ·obtain ⟨rfl, rfl⟩ := h1
  simp [h, plW]
 ·rw [if_neg h1, if_neg, ← plW]
  simp only [h, Bool.not_false, Bool.true_and, Bool.and_eq_true, beq_iff_eq]
  exact fun q => h1 ⟨q.1.symm, q.2.symm⟩
theorem plW_deep {m : List Ent} {e : Ent} (h : e.p.deep = true) (z : List Str) (k : Str) : plW (m ++ [e]) z k = plW m z k := by
 rw [plW, Y6, if_neg (by simp [h]), ← plW]
theorem dpW_put {m : List Ent} {e : Ent} (h : e.p.deep = true) (z : List Str) (k : Str) : dpW (m ++ [e]) z k = if z = splitL e.p.path ∧ k = e.p.act then dpW m (splitL e.p.path) e.p.act ||| oneW e.r.toNat else dpW m z k := by
 rw [dpW, Y6]
 by_cases h1 : z = splitL e.p.path ∧ k = e.p.act
 ·obtain ⟨rfl, rfl⟩ := h1
  simp [h, dpW]
 ·rw [if_neg h1, if_neg, ← dpW]
  simp only [h, Bool.true_and, Bool.and_eq_true, beq_iff_eq]
  exact fun q => h1 ⟨q.1.symm, q.2.symm⟩
theorem dpW_plain {m : List Ent} {e : Ent} (h : e.p.deep = false) (z : List Str) (k : Str) : dpW (m ++ [e]) z k = dpW m z k := by
 rw [dpW, Y6, if_neg (by simp [h]), ← dpW]
end Go.Lx
/- The trie of grants in memory. Nothing of a program stands here. -/
namespace Go.Lx
open Go Go.RowKit Go.MapKept Go.ChangeMaps
structure TN where
 b : Nat
 p : Nat
 d : Nat
 q : Nat
def TN.mp (t : TN) : Nat → Nat
 | 0 => t.p
 | 1 => t.d
 | _ => t.q
abbrev svV (s : SV) : Value := .agg (encSV s).toArray
def ptV : Option Nat → Value
 | none => .pointer none
 | some b => pB b
def svz : SV := ⟨none, 0, 0⟩
theorem Ym {κ α : Type} [DecidableEq κ] (l : List (κ × α)) (k k' : κ) (a : α) : getM (putM l k a) k' = if k' = k then some a else getM l k' := by
 by_cases hm : l.any (fun p => decide (p.1 = k)) = true
 ·rw [putM, if_pos hm]
  induction l with
  | nil => simp at hm
  | cons p l ih =>
   by_cases hp : p.1 = k
   ·rw [List.map_cons, if_pos hp]
    by_cases hk : k' = k
    ·subst hk; rw [if_pos rfl]; simp [getM]
    ·rw [if_neg hk]
     have h1 : ∀ l : List (κ × α), getM (l.map fun p => if p.1 = k then (k, a) else p) k' = getM l k' := by
      intro l
      induction l with
      | nil => rfl
      | cons q l ih =>
       rw [List.map_cons]
       by_cases hq : q.1 = k
       ·rw [if_pos hq]
        have e1 : ¬ k = k' := fun e => hk e.symm
        have e2 : ¬ q.1 = k' := fun e => hk (e.symm.trans hq)
        simpa [getM, List.find?_cons, e1, e2] using ih
       ·rw [if_neg hq]
        by_cases e : q.1 = k'
        ·simp [getM, List.find?_cons, e]
        ·simpa [getM, List.find?_cons, e] using ih
     have e1 : ¬ k = k' := fun e => hk e.symm
     have e2 : ¬ p.1 = k' := fun e => hk (e.symm.trans hp)
     simpa [getM, List.find?_cons, e1, e2] using h1 l
   ·rw [List.map_cons, if_neg hp]
    have hm2 : l.any (fun p => decide (p.1 = k)) = true := by simpa [hp] using hm
    have h2 := ih hm2
    by_cases e : p.1 = k'
    ·have : ¬ k' = k := fun h => hp (e.trans h)
     rw [if_neg this]
     simp [getM, List.find?_cons, e]
    ·simpa [getM, List.find?_cons, e] using h2
 ·have hno : ∀ p ∈ l, p.1 ≠ k := fun p hp e => hm (List.any_eq_true.2 ⟨p, hp, decide_eq_true e⟩)
  rw [putM_no hno]
  by_cases hk : k' = k
  ·subst hk
   rw [if_pos rfl]
   have h0 : l.find? (fun p => decide (p.1 = k')) = none := List.find?_eq_none.2 fun p hp => by simpa using hno p hp
   simp [getM, List.find?_append, h0]
  ·rw [if_neg hk]
   have e1 : ¬ k = k' := fun e => hk e.symm
   simp [getM, List.find?_append, e1]
section
variable {F F' : Nat → Prop} {γ : Prop} {w w' : World} {b : Nat}
theorem At_ne {κ α : Type} [DecidableEq κ] {ek : κ → Value} {em : α → Value} {off g : Nat} {v : Value} {vs : List Value} {l : List (κ × α)} (h : At w b off (v :: vs)) (hm : Mp ek em w g l) : b ≠ g := by
 rintro rfl
 obtain ⟨es, c, h1, _⟩ := hm
 have h2 := h 0 v rfl
 simp [World.cell?, h1] at h2
theorem Sl_ne {κ α β : Type} [DecidableEq κ] {ek : κ → Value} {em : α → Value} {g k c : Nat} {enc : β → List Value} {a : Option Addr} {l : List (κ × α)} {x : List β} (hk : 0 < k) (h : Sl enc k F w a c x) (hm : Mp ek em w g l) : Sl enc k (fun b => F b ∧ b ≠ g) w a c x :=
 ⟨h.le, h.cap, h.nil, fun i z hi => by
  obtain ⟨b, off, h1, h2, h3, h4⟩ := h.el i z hi
  refine ⟨b, off, h1, ⟨⟨h2.1, ?_⟩, h2.2⟩, h3, h4⟩
  cases hz : enc z with
  | nil => rw [hz] at h4; simp at h4; omega
  | cons v vs => rw [hz] at h3; exact At_ne h3 hm⟩
def SMp (F : Nat → Prop) (w : World) (b : Nat) (f : Str → W64) : Prop := ∃ M : List (Str × SV), Mp str svV w b M ∧ (∀ k, ((getM M k).getD svz).x = f k) ∧ ∀ k, Sl encU 1 F w ((getM M k).getD svz).a ((getM M k).getD svz).c (wl ((getM M k).getD svz).x)
theorem SMp.lt {f : Str → W64} (h : SMp F w b f) : b < w.heap.size := let ⟨_, h1, _⟩ := h; h1.lt
theorem SMp.keepD {D : Nat → Prop} {f : Str → W64} (h : SMp F w b f) (x : Bel γ D w w') (hb : ¬ D b) (hd : ∀ g, g < w.heap.size → F g → ¬ D g) : SMp F w' b f :=
 let ⟨M, h1, h2, h3⟩ := h
 ⟨M, h1.keep x hb, h2, fun k => (h3 k).keep x hd⟩
theorem SMp.mono {f : Str → W64} (h : SMp F w b f) (hd : ∀ g, g < w.heap.size → F g → F' g) : SMp F' w b f :=
 let ⟨M, h1, h2, h3⟩ := h
 ⟨M, h1, h2, fun k => (h3 k).mono hd⟩
theorem SMp.new (F : Nat → Prop) (h : Mp str svV w b []) : SMp F w b fun _ => 0 := ⟨[], h, fun _ => rfl, fun _ => by
 have e : (wl svz.x) = [] := by decide
 show Sl encU 1 F w none 0 (wl svz.x)
 rw [e]; exact Sl.none⟩
theorem SMp.keepM {κ α : Type} [DecidableEq κ] {ek : κ → Value} {em : α → Value} {g : Nat} {l : List (κ × α)} {f : Str → W64} (h : SMp F w b f) (x : Bel γ (Only g) w w') (hm : Mp ek em w g l) (hb : b ≠ g) : SMp F w' b f :=
 let ⟨M, h1, h2, h3⟩ := h
 ⟨M, h1.keep x hb, h2, fun k => ((Sl_ne (by decide) (h3 k) hm).keep x fun _ _ h => h.2).mono fun _ _ h => h.1⟩
theorem JH {κ α : Type} [DecidableEq κ] {ek : κ → Value} {em : α → Value} {g off : Nat} {l : List (κ × α)} {v : Value} {vs : List Value} (h : At w b off (v :: vs)) (x : Bel γ (Only g) w w') (hm : Mp ek em w g l) : At w' b off (v :: vs) := h.keep x (At_ne h hm)
structure Tr (F : Nat → Prop) (w : World) (X : List Str → Prop) (P D : List Str → Str → W64) (nd : List Str → TN) : Prop where
 x0 : X []
 up : ∀ ns x, X (ns ++ [x]) → X ns
 fb : ∀ ns, X ns → F (nd ns).b ∧ ∀ i, F ((nd ns).mp i)
 nat : ∀ ns, X ns → At w (nd ns).b 0 [.map (some (nd ns).p), .map (some (nd ns).d), .map (some (nd ns).q)]
 pl : ∀ ns, X ns → SMp F w (nd ns).p (P ns)
 dp : ∀ ns, X ns → SMp F w (nd ns).d (D ns)
 be : ∀ ns, X ns → ∃ M : List (Str × Option Nat), Mp str ptV w (nd ns).q M ∧ ∀ k, (X (ns ++ [k]) → getM M k = some (some (nd (ns ++ [k])).b)) ∧ (¬ X (ns ++ [k]) → getM M k = none)
 ds : ∀ ns ns' i j, X ns → X ns' → i < 3 → j < 3 → (nd ns).mp i = (nd ns').mp j → ns = ns' ∧ i = j
section
variable {X : List Str → Prop} {P D : List Str → Str → W64} {nd : List Str → TN}
theorem Tr.keepD {Db : Nat → Prop} (T : Tr F w X P D nd) (x : Bel γ Db w w') (hd : ∀ g, g < w.heap.size → F g → ¬ Db g) : Tr F w' X P D nd := by
 refine ⟨T.x0, T.up, T.fb, fun ns h => ?_, fun ns h => ?_, fun ns h => ?_, fun ns h => ?_, T.ds⟩
 ·exact (T.nat ns h).keep x (hd _ (T.nat ns h).lt (T.fb ns h).1)
 ·exact (T.pl ns h).keepD x (hd _ (T.pl ns h).lt ((T.fb ns h).2 0)) hd
 ·exact (T.dp ns h).keepD x (hd _ (T.dp ns h).lt ((T.fb ns h).2 1)) hd
 ·obtain ⟨M, h1, h2⟩ := T.be ns h
  exact ⟨M, h1.keep x (hd _ h1.lt ((T.fb ns h).2 2)), h2⟩
theorem Tr.ext (T : Tr F w X P D nd) (x : Ext γ w w') : Tr F w' X P D nd := T.keepD x fun _ _ _ => id
theorem Tr.mono (T : Tr F w X P D nd) (hd : ∀ g, g < w.heap.size → F g → F' g) : Tr F' w X P D nd := by
 refine ⟨T.x0, T.up, fun ns h => ⟨hd _ (T.nat ns h).lt (T.fb ns h).1, fun i => ?_⟩, T.nat, fun ns h => (T.pl ns h).mono hd, fun ns h => (T.dp ns h).mono hd, T.be, T.ds⟩
 have h3 := (T.fb ns h).2 i
 obtain ⟨M, h1, _⟩ := T.be ns h
 match i, h3 with
 | 0, h3 => exact hd _ (T.pl ns h).lt h3
 | 1, h3 => exact hd _ (T.dp ns h).lt h3
 | _ + 2, h3 => exact hd _ h1.lt h3
theorem Tr.congr {X' : List Str → Prop} {P' D' : List Str → Str → W64} (T : Tr F w X P D nd) (hx : ∀ z, X' z ↔ X z) (hp : ∀ z k, X z → P' z k = P z k) (hq : ∀ z k, X z → D' z k = D z k) : Tr F w X' P' D' nd := by
 obtain rfl : X' = X := funext fun z => propext (hx z)
 refine ⟨T.x0, T.up, T.fb, T.nat, fun ns h => ?_, fun ns h => ?_, T.be, T.ds⟩
 ·have := T.pl ns h; rwa [show P' ns = P ns from funext fun k => hp ns k h]
 ·have := T.dp ns h; rwa [show D' ns = D ns from funext fun k => hq ns k h]
def NewN (n : Nat) (w : World) (t : TN) : Prop := n ≤ t.b ∧ (∀ i, n ≤ t.mp i) ∧ At w t.b 0 [.map (some t.p), .map (some t.d), .map (some t.q)] ∧ Mp str svV w t.p ([] : List (Str × SV)) ∧ Mp str svV w t.d ([] : List (Str × SV)) ∧ Mp str ptV w t.q ([] : List (Str × Option Nat)) ∧ t.p < t.d ∧ t.d < t.q
theorem NewN.ext {n : Nat} {t : TN} (h : NewN n w t) (x : Ext γ w w') : NewN n w' t :=
 let ⟨h1, h2, h3, h4, h5, h6, h7⟩ := h
 ⟨h1, h2, h3.ext x, h4.ext x, h5.ext x, h6.ext x, h7⟩
theorem TN.mp_lt {n : Nat} {t : TN} (h : NewN n w t) : (∀ i, t.mp i < w.heap.size) := by
 intro i
 obtain ⟨_, _, _, h4, h5, h6, _⟩ := h
 match i with
 | 0 => exact h4.lt
 | 1 => exact h5.lt
 | _ + 2 => exact h6.lt
theorem Tr.mp_lt (T : Tr F w X P D nd) {ns : List Str} (h : X ns) (i : Nat) : (nd ns).mp i < w.heap.size := by
 obtain ⟨M, h1, _⟩ := T.be ns h
 match i with
 | 0 => exact (T.pl ns h).lt
 | 1 => exact (T.dp ns h).lt
 | _ + 2 => exact h1.lt
theorem Tr.one {t : TN} {n : Nat} (h : NewN n w t) (hF : ∀ g, n ≤ g → F g) (hx : ∀ z, X z ↔ z = []) (hp : ∀ k, P [] k = 0) (hq : ∀ k, D [] k = 0) : Tr F w X P D fun _ => t := by
 obtain ⟨h1, h2, h3, h4, h5, h6, h7⟩ := h
 refine ⟨(hx _).2 rfl, fun ns x h => absurd ((hx _).1 h) (by simp), fun ns _ => ⟨hF _ h1, fun i => hF _ (h2 i)⟩, fun ns _ => h3, fun ns h => ?_, fun ns h => ?_, fun ns h => ⟨[], h6, fun k => ⟨fun h => absurd ((hx _).1 h) (by simp), fun _ => rfl⟩⟩, ?_⟩
 ·obtain rfl := (hx _).1 h
  rw [show P [] = fun _ => 0 from funext hp]; exact SMp.new _ h4
 ·obtain rfl := (hx _).1 h
  rw [show D [] = fun _ => 0 from funext hq]; exact SMp.new _ h5
 ·intro ns ns' i j hn hn' hi hj he
  refine ⟨((hx _).1 hn).trans ((hx _).1 hn').symm, ?_⟩
  have hi' : i = 0 ∨ i = 1 ∨ i = 2 := by omega
  have hj' : j = 0 ∨ j = 1 ∨ j = 2 := by omega
  rcases hi' with rfl | rfl | rfl <;> rcases hj' with rfl | rfl | rfl <;> first | rfl | (simp only [TN.mp] at he; omega)
theorem Tr.grow {M : List (Str × Option Nat)} {ns : List Str} {x : Str} {t : TN} {n : Nat} (T : Tr F w X P D nd) (hn : w.heap.size ≤ n) (hns : X ns) (hx : ¬ X (ns ++ [x])) {w1 w2 : World} {γ' : Prop} (x1 : Ext γ w w1) (ht : NewN n w1 t) (hF : ∀ g, n ≤ g → F g)
  (hM : ∀ k, (X (ns ++ [k]) → getM M k = some (some (nd (ns ++ [k])).b)) ∧ (¬ X (ns ++ [k]) → getM M k = none)) (h1 : Mp str ptV w1 (nd ns).q M) (x2 : Bel γ' (Only (nd ns).q) w1 w2) (h2 : Mp str ptV w2 (nd ns).q (putM M x (some t.b)))
  {X' : List Str → Prop} (hX : ∀ z, X' z ↔ X z ∨ z = ns ++ [x]) (hp : ∀ k, P (ns ++ [x]) k = 0) (hq : ∀ k, D (ns ++ [x]) k = 0) : Tr F w2 X' P D fun z => if z = ns ++ [x] then t else nd z := by
 have T1 := T.ext x1
 have hold : ∀ z, X z → z ≠ ns ++ [x] := fun z h e => hx (e ▸ h)
 have hqne : ∀ z, X z → z ≠ ns → (nd z).q ≠ (nd ns).q := fun z h hne e => hne (T.ds z ns 2 2 h hns (by decide) (by decide) e).1
 have hpn : ∀ z, X z → (nd z).p ≠ (nd ns).q := fun z h e => by have := (T.ds z ns 0 2 h hns (by decide) (by decide) e).2; omega
 have hdn : ∀ z, X z → (nd z).d ≠ (nd ns).q := fun z h e => by have := (T.ds z ns 1 2 h hns (by decide) (by decide) e).2; omega
 have hql := T.mp_lt hns 2
 have hne : ∀ i, t.mp i ≠ (nd ns).q := fun i e => by have := ht.2.1 i; rw [e] at this; exact absurd hql (by simp only [TN.mp]; omega)
 obtain ⟨g1, g2, g3, g4, g5, g6, g7⟩ := ht
 refine ⟨(hX _).2 (.inl T.x0), fun z y h => ?_, fun z h => ?_, fun z h => ?_, fun z h => ?_, fun z h => ?_, fun z h => ?_, ?_⟩
 ·rcases (hX _).1 h with h | h
  ·exact (hX _).2 (.inl (T.up z y h))
  ·rw [(List.append_inj' h rfl).1]; exact (hX _).2 (.inl hns)
 ·by_cases e : z = ns ++ [x]
  ·simp only [e, if_true]; exact ⟨hF _ g1, fun i => hF _ (g2 i)⟩
  ·simp only [e, if_false]; exact T.fb z (((hX _).1 h).resolve_right e)
 ·by_cases e : z = ns ++ [x]
  ·simp only [e, if_true]; exact JH g3 x2 h1
  ·simp only [e, if_false]; exact JH (T1.nat z (((hX _).1 h).resolve_right e)) x2 h1
 ·by_cases e : z = ns ++ [x]
  ·subst e
   simp only [if_true]
   rw [show P (ns ++ [x]) = fun _ => 0 from funext hp]; exact SMp.new _ (g4.keep x2 (hne 0))
  ·simp only [e, if_false]
   have hz := ((hX _).1 h).resolve_right e
   exact (T1.pl z hz).keepM x2 h1 (hpn z hz)
 ·by_cases e : z = ns ++ [x]
  ·subst e
   simp only [if_true]
   rw [show D (ns ++ [x]) = fun _ => 0 from funext hq]; exact SMp.new _ (g5.keep x2 (hne 1))
  ·simp only [e, if_false]
   have hz := ((hX _).1 h).resolve_right e
   exact (T1.dp z hz).keepM x2 h1 (hdn z hz)
 ·by_cases e : z = ns ++ [x]
  ·subst e
   simp only [if_true]
   refine ⟨[], g6.keep x2 (hne 2), fun k => ⟨fun hk => ?_, fun _ => rfl⟩⟩
   rcases (hX _).1 hk with hk | hk
   ·exact absurd (T.up _ _ hk) hx
   ·exact absurd (congrArg List.length hk) (by simp)
  ·simp only [e, if_false]
   have hz := ((hX _).1 h).resolve_right e
   by_cases e2 : z = ns
   ·subst e2
    refine ⟨_, h2, fun k => ?_⟩
    rw [Ym]
    by_cases hk : k = x
    ·subst hk
     simp only [if_true]
     exact ⟨fun _ => by first | rfl | trivial, fun hn => absurd ((hX _).2 (.inr rfl)) hn⟩
    ·have hk2 : ¬ z ++ [k] = z ++ [x] := fun h => hk (by simpa using h)
     simp only [hk, hk2, if_false]
     exact ⟨fun h => (hM k).1 (((hX _).1 h).resolve_right hk2), fun h => (hM k).2 fun q => h ((hX _).2 (.inl q))⟩
   ·obtain ⟨M2, m1, m2⟩ := T1.be z hz
    refine ⟨M2, m1.keep x2 (hqne z hz e2), fun k => ?_⟩
    have hk2 : ¬ z ++ [k] = ns ++ [x] := fun h => e2 (List.append_inj' h rfl).1
    simp only [hk2, if_false]
    exact ⟨fun h => (m2 k).1 (((hX _).1 h).resolve_right hk2), fun h => (m2 k).2 fun q => h ((hX _).2 (.inl q))⟩
 ·intro z z' i j hz hz' hi hj he
  by_cases e : z = ns ++ [x] <;> by_cases e' : z' = ns ++ [x]
  ·simp only [e, e', if_true] at he
   refine ⟨e.trans e'.symm, ?_⟩
   have hi' : i = 0 ∨ i = 1 ∨ i = 2 := by omega
   have hj' : j = 0 ∨ j = 1 ∨ j = 2 := by omega
   rcases hi' with rfl | rfl | rfl <;> rcases hj' with rfl | rfl | rfl <;> first | rfl | (simp only [TN.mp] at he; omega)
  ·simp only [e, e', if_true, if_false] at he
   have h1 := T.mp_lt (((hX _).1 hz').resolve_right e') j
   have h2 := g2 i
   omega
  ·simp only [e, e', if_true, if_false] at he
   have h1 := T.mp_lt (((hX _).1 hz).resolve_right e) i
   have h2 := g2 j
   omega
  ·simp only [e, e', if_false] at he
   exact T.ds z z' i j (((hX _).1 hz).resolve_right e) (((hX _).1 hz').resolve_right e') hi hj he
theorem Tr.putP {M : List (Str × SV)} {ns : List Str} {a : Str} {s : SV} (T : Tr F w X P D nd) (hns : X ns) {w1 w2 : World} {γ' : Prop} (x1 : Ext γ w w1) (hs : Sl encU 1 F w1 s.a s.c (wl s.x))
  (hM : ∀ k, ((getM M k).getD svz).x = P ns k) (hMs : ∀ k, Sl encU 1 F w ((getM M k).getD svz).a ((getM M k).getD svz).c (wl ((getM M k).getD svz).x)) (h1 : Mp str svV w1 (nd ns).p M) (x2 : Bel γ' (Only (nd ns).p) w1 w2) (h2 : Mp str svV w2 (nd ns).p (putM M a s))
  {P' : List Str → Str → W64} (hP : ∀ z k, P' z k = if z = ns ∧ k = a then s.x else P z k) : Tr F w2 X P' D nd := by
 have T1 := T.ext x1
 refine ⟨T.x0, T.up, T.fb, fun z h => JH (T1.nat z h) x2 h1, fun z h => ?_, fun z h => ?_, fun z h => ?_, T.ds⟩
 ·by_cases e : z = ns
  ·subst e
   refine ⟨_, h2, fun k => ?_, fun k => ?_⟩
   ·rw [Ym, hP]
    by_cases hk : k = a
    ·simp [hk]
    ·simp [hk, hM k]
   ·rw [Ym]
    by_cases hk : k = a
    ·simp only [hk, if_true, Option.getD_some]
     exact ((Sl_ne (by decide) hs h1).keep x2 fun _ _ h => h.2).mono fun _ _ h => h.1
    ·simp only [hk, if_false]
     exact ((Sl_ne (by decide) ((hMs k).ext x1) h1).keep x2 fun _ _ h => h.2).mono fun _ _ h => h.1
  ·rw [show P' z = P z from funext fun k => by rw [hP, if_neg (fun q => e q.1)]]
   exact (T1.pl z h).keepM x2 h1 fun q => e (T.ds z ns 0 0 h hns (by decide) (by decide) q).1
 ·exact (T1.dp z h).keepM x2 h1 fun q => by have := (T.ds z ns 1 0 h hns (by decide) (by decide) q).2; omega
 ·obtain ⟨M2, m1, m2⟩ := T1.be z h
  exact ⟨M2, m1.keep x2 fun q => by have := (T.ds z ns 2 0 h hns (by decide) (by decide) q).2; omega, m2⟩
theorem Tr.putD {M : List (Str × SV)} {ns : List Str} {a : Str} {s : SV} (T : Tr F w X P D nd) (hns : X ns) {w1 w2 : World} {γ' : Prop} (x1 : Ext γ w w1) (hs : Sl encU 1 F w1 s.a s.c (wl s.x))
  (hM : ∀ k, ((getM M k).getD svz).x = D ns k) (hMs : ∀ k, Sl encU 1 F w ((getM M k).getD svz).a ((getM M k).getD svz).c (wl ((getM M k).getD svz).x)) (h1 : Mp str svV w1 (nd ns).d M) (x2 : Bel γ' (Only (nd ns).d) w1 w2) (h2 : Mp str svV w2 (nd ns).d (putM M a s))
  {D' : List Str → Str → W64} (hP : ∀ z k, D' z k = if z = ns ∧ k = a then s.x else D z k) : Tr F w2 X P D' nd := by
 have T1 := T.ext x1
 refine ⟨T.x0, T.up, T.fb, fun z h => JH (T1.nat z h) x2 h1, fun z h => ?_, fun z h => ?_, fun z h => ?_, T.ds⟩
 ·exact (T1.pl z h).keepM x2 h1 fun q => by have := (T.ds z ns 0 1 h hns (by decide) (by decide) q).2; omega
 ·by_cases e : z = ns
  ·subst e
   refine ⟨_, h2, fun k => ?_, fun k => ?_⟩
   ·rw [Ym, hP]
    by_cases hk : k = a
    ·simp [hk]
    ·simp [hk, hM k]
   ·rw [Ym]
    by_cases hk : k = a
    ·simp only [hk, if_true, Option.getD_some]
     exact ((Sl_ne (by decide) hs h1).keep x2 fun _ _ h => h.2).mono fun _ _ h => h.1
    ·simp only [hk, if_false]
     exact ((Sl_ne (by decide) ((hMs k).ext x1) h1).keep x2 fun _ _ h => h.2).mono fun _ _ h => h.1
  ·rw [show D' z = D z from funext fun k => by rw [hP, if_neg (fun q => e q.1)]]
   exact (T1.dp z h).keepM x2 h1 fun q => e (T.ds z ns 1 1 h hns (by decide) (by decide) q).1
 ·obtain ⟨M2, m1, m2⟩ := T1.be z h
  exact ⟨M2, m1.keep x2 fun q => by have := (T.ds z ns 2 1 h hns (by decide) (by decide) q).2; omega, m2⟩
end
end
def TrIs (F : Nat → Prop) (w : World) (b : Nat) (m : List Ent) : Prop := ∃ nd : List Str → TN, (nd []).b = b ∧ Tr F w (exN m) (plW m) (dpW m) nd
theorem TrIs.keepD {F D : Nat → Prop} {γ : Prop} {w w' : World} {b : Nat} {m : List Ent} (h : TrIs F w b m) (x : Bel γ D w w') (hd : ∀ g, g < w.heap.size → F g → ¬ D g) : TrIs F w' b m := let ⟨nd, h1, h2⟩ := h; ⟨nd, h1, h2.keepD x hd⟩
theorem TrIs.ext {F : Nat → Prop} {γ : Prop} {w w' : World} {b : Nat} {m : List Ent} (h : TrIs F w b m) (x : Ext γ w w') : TrIs F w' b m := h.keepD x fun _ _ _ => id
theorem TrIs.mono {F F' : Nat → Prop} {w : World} {b : Nat} {m : List Ent} (h : TrIs F w b m) (hd : ∀ g, g < w.heap.size → F g → F' g) : TrIs F' w b m := let ⟨nd, h1, h2⟩ := h; ⟨nd, h1, h2.mono hd⟩
theorem TrIs.new {F : Nat → Prop} {n : Nat} {w : World} {t : TN} (h : NewN n w t) (hF : ∀ g, n ≤ g → F g) : TrIs F w t.b [] :=
 ⟨fun _ => t, rfl, Tr.one h hF (fun z => ⟨fun q => q.elim id (fun ⟨_, h, _⟩ => absurd h (by simp)), .inl⟩) (fun _ => rfl) (fun _ => rfl)⟩
section
variable {rd : Option Nat} {P : Program} {n : Nat} {Q : Fr → World → Prop} {fr : Fr} {w : World} {ops : Array Oper} {rest : List Oper} {d : Option Nat} {t : TypeId} {ps : String} {af : Array Edge} {T K E : TypeId} {k : Str} {b : Nat} {x y z : Operand}
theorem Rg_wput {M : List (Str × SV)} {a : SV} (hd : dstOk n d = true) (hT : P.underlying T = some (.map K E)) (hK : P.underlying K = some .string) (hx : ev fr x = .map (some b)) (hy : ev fr y = str k) (hz : ev fr z = svV a) (h : Mp str svV w b M)
  (hk : ∀ w', Bel True (Only b) w w' → Mp str svV w' b (putM M k a) → Rg rd P n ops rest Q (fr.put d undef) w') : Rg rd P n ops (⟨d, .mapUpdate T x y z, t, ps, af, none⟩ :: rest) Q fr w :=
 Rg_mput (a := a) hd hT hK str_key hx hy hz h hk
theorem Rg_tput {M : List (Str × Option Nat)} {a : Nat} (hd : dstOk n d = true) (hT : P.underlying T = some (.map K E)) (hK : P.underlying K = some .string) (hx : ev fr x = .map (some b)) (hy : ev fr y = str k) (hz : ev fr z = .pointer (some ⟨a, 0, none⟩)) (h : Mp str ptV w b M)
  (hk : ∀ w', Bel True (Only b) w w' → Mp str ptV w' b (putM M k (some a)) → Rg rd P n ops rest Q (fr.put d undef) w') : Rg rd P n ops (⟨d, .mapUpdate T x y z, t, ps, af, none⟩ :: rest) Q fr w :=
 Rg_mput (a := some a) hd hT hK str_key hx hy hz h hk
theorem Rg_wmk (hd : dstOk n d = true)
  (hk : ∀ b w', Ext True w w' → w.heap.size ≤ b → b < w'.heap.size → Mp str svV w' b ([] : List (Str × SV)) → Rg rd P n ops rest Q (fr.put d (.map (some b))) w') : Rg rd P n ops (⟨d, .makeMap T none, t, ps, af, none⟩ :: rest) Q fr w :=
 Rg_mmk str svV hd hk
theorem Rg_tmk (hd : dstOk n d = true)
  (hk : ∀ b w', Ext True w w' → w.heap.size ≤ b → b < w'.heap.size → Mp str ptV w' b ([] : List (Str × Option Nat)) → Rg rd P n ops rest Q (fr.put d (.map (some b))) w') : Rg rd P n ops (⟨d, .makeMap T none, t, ps, af, none⟩ :: rest) Q fr w :=
 Rg_mmk str ptV hd hk
theorem Y7 {M : List (Str × SV)} {u : SV} {g : Option (Nat × Bool)} (hT : P.underlying T = some (.map K E)) (hK : P.underlying K = some .string) (hz : ∀ w, (zeroValue E).run P w = .ok (svV svz) w) (h : Mp str svV w b M) (hx : ev fr x = .map (some b)) (hy : ev fr y = str k) (hu : (getM M k).getD svz = u) :
  xop P fr w ⟨d, .lookup T x y false, t, ps, af, g⟩ = .ok (.value (svV u)) w := by
 have := Yr (ok := false) (d := d) (t := t) (ps := ps) (af := af) (g := g) (z0 := svz) (k := k) hT hK str_key hz h hx hy
 rw [hu] at this
 exact this
theorem o_tlook {M : List (Str × Option Nat)} {u : Option Nat} {g : Option (Nat × Bool)} (hT : P.underlying T = some (.map K E)) (hK : P.underlying K = some .string) (hz : ∀ w, (zeroValue E).run P w = .ok (ptV none) w) (h : Mp str ptV w b M) (hx : ev fr x = .map (some b)) (hy : ev fr y = str k) (hu : (getM M k).getD none = u) :
  xop P fr w ⟨d, .lookup T x y false, t, ps, af, g⟩ = .ok (.value (ptV u)) w := by
 have := Yr (ok := false) (d := d) (t := t) (ps := ps) (af := af) (g := g) (z0 := none) (k := k) hT hK str_key hz h hx hy
 rw [hu] at this
 exact this
end
end Go.Lx
/- Tables of a state: rows, what is read of them. Nothing of a program stands here. -/
namespace Go.Lx
open Go Go.RowKit Go.MapKept Go.ChangeMaps
def getV (l : List SV) (i : Int) : SV := if 0 ≤ i ∧ i < (l.length : Int) then l.getD i.toNat sz else sz
theorem getV_out {l : List SV} {i : Int} (h : ¬ (0 ≤ i ∧ i < (l.length : Int))) : getV l i = sz := if_neg h
theorem getV_in {l : List SV} {k : Nat} (h : k < l.length) : getV l (k : Int) = l.getD k sz := by
 unfold getV
 rw [if_pos (by omega)]; simp
theorem Jx {F : Nat → Prop} {w : World} {l : List SV} (h : WdsAt F w l) (i : Int) : Sl encU 1 F w (getV l i).a (getV l i).c (wl (getV l i).x) := by
 unfold getV
 split
 ·rename_i hi
  exact h _ (gm (by omega))
 ·have e : wl sz.x = [] := by decide
  show Sl encU 1 F w none 0 (wl sz.x)
  rw [e]; exact Sl.none
theorem SesAt.topx {γ : Prop} {w w' : World} {l : List SE} (h : SesAt (Lt w.heap.size) w l) (x : Ext γ w w') : SesAt (Lt w'.heap.size) w' l := (h.ext x).mono fun _ hb _ => hb
def clW (J : List SV) (m : List Int) : W64 := m.foldl (fun x r => x ||| (getV J (r - 1)).x) 0
theorem clW_succ {J : List SV} {m : List Int} {i : Nat} {y : Int} (h : m[i]? = some y) : clW J (m.take (i + 1)) = clW J (m.take i) ||| (getV J (y - 1)).x := by
 have hi := (List.getElem?_eq_some_iff.1 h).1
 unfold clW
 rw [List.take_succ_eq_append_getElem hi, List.foldl_append, (List.getElem?_eq_some_iff.1 h).2]; rfl
structure RowV where
 u : Int
 s : SV
def rwz0 : RowV := ⟨0, sz⟩
abbrev rowE (r : RowV) : Value := .agg (.int .i64 r.u :: encSV r.s).toArray
def ekI (i : Int) : Value := .int .i64 i
theorem int_key : KeyEnc (.int .i64) ekI := ⟨fun _ => rfl, fun a b h => by simpa [ekI] using h⟩
def OMp (F : Nat → Prop) (w : World) (b : Nat) (M : List (Int × RowV)) : Prop := Mp ekI rowE w b M ∧ ∀ p ∈ M, Sl encU 1 F w p.2.s.a p.2.s.c (wl p.2.s.x)
theorem OMp.keepD {F D : Nat → Prop} {γ : Prop} {w w' : World} {b : Nat} {M : List (Int × RowV)} (h : OMp F w b M) (x : Bel γ D w w') (hb : ¬ D b) (hd : ∀ g, g < w.heap.size → F g → ¬ D g) : OMp F w' b M := ⟨h.1.keep x hb, fun p hp => (h.2 p hp).keep x hd⟩
theorem OMp.ext {F : Nat → Prop} {γ : Prop} {w w' : World} {b : Nat} {M : List (Int × RowV)} (h : OMp F w b M) (x : Ext γ w w') : OMp F w' b M := h.keepD x id fun _ _ _ => id
theorem OMp.get {F : Nat → Prop} {w : World} {b : Nat} {M : List (Int × RowV)} (h : OMp F w b M) (k : Int) : Sl encU 1 F w ((getM M k).getD rwz0).s.a ((getM M k).getD rwz0).s.c (wl ((getM M k).getD rwz0).s.x) := by
 cases hf : getM M k with
 | none =>
  have e : wl sz.x = [] := by decide
  show Sl encU 1 F w none 0 (wl sz.x)
  rw [e]; exact Sl.none
 | some r =>
  unfold getM at hf
  cases hg : M.find? (fun p => decide (p.1 = k)) with
  | none => rw [hg] at hf; cases hf
  | some p =>
   rw [hg] at hf
   simp only [Option.map_some, Option.some.injEq] at hf
   subst hf
   exact h.2 p (List.mem_of_find?_eq_some hg)
structure PSl where
 a : Option Addr
 c : Nat
 l : List Perm
def psz : PSl := ⟨none, 0, []⟩
def encPS (s : PSl) : List Value := [.slice s.a s.l.length s.c]
theorem Yn : EncOk encPS 1 := ⟨by decide, fun _ => rfl, fun x u hu => by simp [encPS] at hu; subst hu; rfl⟩
def PssAt (F : Nat → Prop) (w : World) (l : List PSl) : Prop := ∀ s ∈ l, Sl encP 3 F w s.a s.c s.l
theorem PssAt.keep {F D : Nat → Prop} {γ : Prop} {w w' : World} {l : List PSl} (h : PssAt F w l) (x : Bel γ D w w') (hd : ∀ b, b < w.heap.size → F b → ¬ D b) : PssAt F w' l := fun s hs => (h s hs).keep x hd
theorem PssAt.ext {F : Nat → Prop} {γ : Prop} {w w' : World} {l : List PSl} (h : PssAt F w l) (x : Ext γ w w') : PssAt F w' l := fun s hs => (h s hs).ext x
theorem PssAt.mono {F F' : Nat → Prop} {w : World} {l : List PSl} (h : PssAt F w l) (hd : ∀ b, b < w.heap.size → F b → F' b) : PssAt F' w l := fun s hs => (h s hs).mono hd
theorem PssAt.app {F : Nat → Prop} {w : World} {l r : List PSl} (h : PssAt F w l) (k : PssAt F w r) : PssAt F w (l ++ r) := fun s hs => (List.mem_append.1 hs).elim (h s) (k s)
section
variable {rd : Option Nat} {P : Program} {n : Nat} {Q : Fr → World → Prop} {fr : Fr} {w : World} {ops : Array Oper} {rest : List Oper} {d : Option Nat} {t T K E : TypeId} {ps : String} {af : Array Edge} {g : Option (Nat × Bool)} {x y z : Operand} {fs : Array Field} {Fl : Field} {f s b : Nat} {vs : Array Value} {v : Value} {k : Int}
theorem o_fieldV (hT : P.underlying T = some (.struct fs)) (hf : fs[f]? = some Fl) (ha : ∀ w, (isAgg Fl.type).run P w = .ok false w) (hs : ∀ w, (sizeOf Fl.type).run P w = .ok 1 w) (hx : ev fr x = .agg vs) (hv : vs[Fl.offset]? = some v) : xop P fr w ⟨d, .field T x f, t, ps, af, g⟩ = .ok (.value v) w := by
 have e : (asAgg (Value.agg vs)).run P w = .ok vs w := rfl
 simp [xop, execOp, hx, Instr.field, run_underlying hT, hf, part, ha, hs, e, hv]
theorem o_fieldA {us : Array Value} (hT : P.underlying T = some (.struct fs)) (hf : fs[f]? = some Fl) (ha : ∀ w, (isAgg Fl.type).run P w = .ok true w) (hs : ∀ w, (sizeOf Fl.type).run P w = .ok s w) (hx : ev fr x = .agg vs) (hv : vs.extract Fl.offset (Fl.offset + s) = us) : xop P fr w ⟨d, .field T x f, t, ps, af, g⟩ = .ok (.value (.agg us)) w := by
 have e : (asAgg (Value.agg vs)).run P w = .ok vs w := rfl
 simp [xop, execOp, hx, Instr.field, run_underlying hT, hf, part, ha, hs, e, hv]
theorem Rg_oput {M : List (Int × RowV)} {u0 : Int} {s0 : SV} (hd : dstOk n d = true) (hT : P.underlying T = some (.map K E)) (hK : P.underlying K = some (.int .i64)) (hx : ev fr x = .map (some b)) (hy : ev fr y = .int .i64 k) (hz : ev fr z = .agg (.int .i64 u0 :: encSV s0).toArray) (h : Mp ekI rowE w b M)
  (hk : ∀ w', Bel True (Only b) w w' → Mp ekI rowE w' b (putM M k ⟨u0, s0⟩) → Rg rd P n ops rest Q (fr.put d undef) w') : Rg rd P n ops (⟨d, .mapUpdate T x y z, t, ps, af, none⟩ :: rest) Q fr w :=
 Rg_mput (a := (⟨u0, s0⟩ : RowV)) hd hT hK int_key hx hy hz h hk
theorem Rg_omk (hd : dstOk n d = true)
  (hk : ∀ b w', Ext True w w' → w.heap.size ≤ b → b < w'.heap.size → Mp ekI rowE w' b ([] : List (Int × RowV)) → Rg rd P n ops rest Q (fr.put d (.map (some b))) w') : Rg rd P n ops (⟨d, .makeMap T none, t, ps, af, none⟩ :: rest) Q fr w :=
 Rg_mmk ekI rowE hd hk
theorem o_olook {M : List (Int × RowV)} {u : RowV} (hT : P.underlying T = some (.map K E)) (hK : P.underlying K = some (.int .i64)) (hz : ∀ w, (zeroValue E).run P w = .ok (rowE rwz0) w) (h : Mp ekI rowE w b M) (hx : ev fr x = .map (some b)) (hy : ev fr y = .int .i64 k) (hu : (getM M k).getD rwz0 = u) :
  xop P fr w ⟨d, .lookup T x y false, t, ps, af, g⟩ = .ok (.value (rowE u)) w := by
 have := Yr (ok := false) (d := d) (t := t) (ps := ps) (af := af) (g := g) (z0 := rwz0) (k := k) hT hK int_key hz h hx hy
 rw [hu] at this
 exact this
end
end Go.Lx
/- An element that a region makes, in memory of no colour, and a list that it is put behind. Nothing of a program stands here. -/
namespace Go.Lx
open Go Go.RowKit
theorem Bel.exV {β : Prop} {D : Nat → Prop} {w w' : World} (x : Bel β D w w') (h : ∀ b, b < w.heap.size → D b → w'.heap[b]? = w.heap[b]?) : Ext β w w' :=
 ⟨x.os, x.tape, x.output, x.size, fun b hb _ => (Classical.em (D b)).elim (h b hb) (x.block b hb), x.drawn⟩
theorem OpS_vp {β : Prop} {P : Program} {ops : Array Oper} {o : Oper} {fr : Fr} {w : World} {v : Value} {S : Post} (hg : o.guard = none) (h : xop P fr w o = .ok (.value v) w) (hs : S v w) : OpS β P ops o fr w S :=
 .inl ⟨by simp [Region.wanted, hg], .inl ⟨v, w, h, Ext.rfl' w, hs⟩⟩
theorem ofG_ok {m : List Ent} {r : Int} (h : OkG m) : ∀ p ∈ ofG m r, p.ok := fun p hp => by
 obtain ⟨e, he, rfl⟩ := List.mem_map.1 hp
 exact (h.ve e (List.mem_filter.1 he).1).2.2.1
theorem ofG_len2 {m : List Ent} (h : OkG m) (r : Int) : (ofG m r).length ≤ 1000 := Nat.le_trans (ofG_len m r) h.len
theorem take_sv {l : List SV} {k : Nat} (h : k < l.length) : l.take (k + 1) = l.take k ++ [l.getD k sz] := by
 rw [List.take_succ_eq_append_getElem h]; simp [List.getD, h]
theorem Y8 {F : Nat → Prop} {w : World} : WdsAt F w [] := fun _ h => by cases h
theorem pss_nil {F : Nat → Prop} {w : World} : PssAt F w [] := fun _ h => by cases h
section
variable {α : Type} {Pg : Nat → Prop} {w w' : World} {c c' : Nat → Nat} {S : (Nat → Prop) → α → World → Prop}
def KeepE (S : (Nat → Prop) → α → World → Prop) : Prop := ∀ (F : Nat → Prop) (z : α) (γ : Prop) (D : Nat → Prop) (w w' : World), Bel γ D w w' → (∀ b, b < w.heap.size → F b → ¬ D b) → S F z w → S F z w'
def EZ (S : (Nat → Prop) → α → World → Prop) (Pg : Nat → Prop) (z : α) (w : World) (c : Nat → Nat) : Prop := ∃ F, (∀ g, F g → g < w.heap.size ∧ c g = 0) ∧ (∀ g, F g → Pg g) ∧ S F z w
theorem EZ.step {β : Prop} {k : Nat} {z : α} (hS : KeepE S) (h : EZ S Pg z w c) (x : StepC β k w c w' c') : EZ S Pg z w' c' :=
 let ⟨F, h1, h2, h3⟩ := h
 ⟨F, fun g hg => ⟨Nat.lt_of_lt_of_le (h1 g hg).1 x.bel.size, (x.col g (h1 g hg).1).trans (h1 g hg).2⟩, h2, hS _ _ _ _ _ _ x.bel (fun b _ hb hd => hd.1 (by rw [← hd.2]; exact (h1 b hb).2)) h3⟩
def postB1 (S : (Nat → Prop) → α → World → Prop) (Pg : Nat → Prop) (enc : α → List Value) (k : Nat) (e : TypeId) : PostC := fun v w c => ∃ a z, v = .slice a 1 1 ∧ EZ S Pg z w c ∧ postOwn enc k e 0 [z] v w c
theorem Js {enc : α → List Value} {k q : Nat} {e : TypeId} (hS : KeepE S) : StableC q (postB1 S Pg enc k e) := by
 rintro v w c w' c' r hr hx ⟨a, z, h1, h2, h3⟩
 exact ⟨a, z, h1, h2.step hS hx, Zc (kc := 0) _ _ _ _ _ r (by omega) hx h3⟩
def postA1 (S : (Nat → Prop) → α → World → Prop) (Pg : Nat → Prop) (enc : α → List Value) (k : Nat) (e : TypeId) (kc : Nat) (l : List α) : PostC := fun v w c => ∃ z, EZ S Pg z w c ∧ postOwn enc k e kc (l ++ [z]) v w c
theorem Jt {enc : α → List Value} {k kc : Nat} {e : TypeId} {l : List α} (hS : KeepE S) : StableC kc (postA1 S Pg enc k e kc l) := by
 rintro v w c w' c' r hr hx ⟨z, h2, h3⟩
 exact ⟨z, h2.step hS hx, Zc _ _ _ _ _ r hr hx h3⟩
end
def SvE (X : W64) (F : Nat → Prop) (z : SV) (w : World) : Prop := z.x = X ∧ Sl encU 1 F w z.a z.c (wl z.x)
theorem SvE.keep (X : W64) : KeepE (SvE X) := fun F z γ D w w' x hd h => ⟨h.1, h.2.keep x hd⟩
def PsE (L : List Perm) (F : Nat → Prop) (z : PSl) (w : World) : Prop := z.l = L ∧ Sl encP 3 F w z.a z.c z.l
theorem PsE.keep (L : List Perm) : KeepE (PsE L) := fun F z γ D w w' x hd h => ⟨h.1, h.2.keep x hd⟩
def SvP (Pg : Nat → Prop) (X : W64) (F : Nat → Prop) (v : Value) (w : World) : Prop := (∀ g, F g → Pg g) ∧ ∃ a c, v = .agg (encSV ⟨a, c, X⟩).toArray ∧ Sl encU 1 F w a c (wl X)
theorem SvP.keepS (Pg : Nat → Prop) (X : W64) : KeepS (SvP Pg X) := fun F v γ D w w' x hd ⟨h0, a, c, h1, h2⟩ => ⟨h0, a, c, h1, h2.keep x hd⟩
def PlP (Pg : Nat → Prop) (L : List Perm) (F : Nat → Prop) (v : Value) (w : World) : Prop := (∀ g, F g → Pg g) ∧ ∃ a c, v = .slice a L.length c ∧ Sl encP 3 F w a c L
theorem PlP.keepS (Pg : Nat → Prop) (L : List Perm) : KeepS (PlP Pg L) := fun F v γ D w w' x hd ⟨h0, a, c, h1, h2⟩ => ⟨h0, a, c, h1, h2.keep x hd⟩
theorem ivE {α : Type} {enc : α → List Value} {k : Nat} {e : TypeId} {P : Nat → Prop} {w : World} {v : Value} {l : List α} {c : Nat → Nat} (hO : Own enc k e (fun g => c g = 1 ∧ P g) w v l) (n : Nat) (hn : n ≤ w.heap.size) :
  ∃ bt et, ((bt = n ∧ et = n) ∨ (P bt ∧ et = bt + 1)) ∧ et ≤ w.heap.size ∧ Own enc k e (fun g => bt ≤ g ∧ g < et) w v l ∧ ∀ g, c g = 0 → ¬ (bt ≤ g ∧ g < et) := by
 cases hb : v.ownBlock with
 | none => exact ⟨n, n, .inl ⟨rfl, rfl⟩, hn, hO.at fun g _ hg => (by rw [hb] at hg; cases hg), fun g _ h => by omega⟩
 | some b =>
  have h1 := hO.loc b hb
  refine ⟨b, b + 1, .inr ⟨h1.2, rfl⟩, hO.lt b hb, hO.at fun g _ hg => (by rw [hb] at hg; cases hg; exact ⟨Nat.le_refl _, Nat.lt_succ_self _⟩), fun g h0 h => ?_⟩
  obtain rfl : g = b := by omega
  rw [h1.1] at h0; cases h0
theorem wds_snoc {F : Nat → Prop} {w : World} {l : List SV} {z : SV} (h : WdsAt F w l) (hz : Sl encU 1 F w z.a z.c (wl z.x)) : WdsAt F w (l ++ [z]) := fun s hs => (List.mem_append.1 hs).elim (h s) fun e => by rw [List.mem_singleton.1 e]; exact hz
theorem pss_snoc {F : Nat → Prop} {w : World} {l : List PSl} {z : PSl} (h : PssAt F w l) (hz : Sl encP 3 F w z.a z.c z.l) : PssAt F w (l ++ [z]) := fun s hs => (List.mem_append.1 hs).elim (h s) fun e => by rw [List.mem_singleton.1 e]; exact hz
theorem rng_snoc {β : Type} {f : Nat → β} {l : List β} {k : Nat} {z : β} (h : l = (List.range k).map f) (hz : z = f k) : l ++ [z] = (List.range (k + 1)).map f := by
 rw [List.range_succ, List.map_append, h, hz]; rfl
abbrev tbL (o : Value) (day : Int) (ex mm jj op tr gr : Value) : List Value := [o, .int .i64 day, ex, mm, jj, op, tr, gr]
abbrev nilS : Value := .slice none 0 0
def OSp (J M : List SV) (l : List SE) (k : Nat) (O : List (Int × RowV)) : Prop := (k = 0 ∧ O = []) ∨ ∃ z : SV, k = 1 ∧ O = [((l.getD 0 sez).n, ⟨(l.getD 0 sez).u, z⟩)] ∧ z.x = clW J (memW ((l.getD 0 sez).x &&& (getV M ((l.getD 0 sez).u - 1)).x) 64)
structure TbV where
 o : Value
 day : Int
 J : List SV
 E : List SV
 M : List SV
 O : List (Int × RowV)
 m : List Ent
 G : List PSl
structure TbP where
 ae : Option Addr
 ce : Nat
 am : Option Addr
 cm : Nat
 aj : Option Addr
 cj : Nat
 mo : Nat
 tr : Nat
 ag : Option Addr
 cg : Nat
abbrev tbC (t : TbV) (p : TbP) : List Value := tbL t.o t.day (.slice p.ae t.E.length p.ce) (.slice p.am t.M.length p.cm) (.slice p.aj t.J.length p.cj) (.map (some p.mo)) (pB p.tr) (.slice p.ag t.G.length p.cg)
structure TbIs (w : World) (b : Nat) (t : TbV) (p : TbP) : Prop where
 at' : At w b 0 (tbC t p)
 e : Sl encSV 1 (Lt w.heap.size) w p.ae p.ce t.E
 ew : WdsAt (Lt w.heap.size) w t.E
 m : Sl encSV 1 (Lt w.heap.size) w p.am p.cm t.M
 mw : WdsAt (Lt w.heap.size) w t.M
 j : Sl encSV 1 (Lt w.heap.size) w p.aj p.cj t.J
 jw : WdsAt (Lt w.heap.size) w t.J
 o : OMp (Lt w.heap.size) w p.mo t.O
 tr : TrIs (Lt w.heap.size) w p.tr t.m
 g : Sl encPS 1 (Lt w.heap.size) w p.ag p.cg t.G
 gw : PssAt (Lt w.heap.size) w t.G
theorem WdsAt.top {F : Nat → Prop} {w : World} {l : List SV} (h : WdsAt F w l) : WdsAt (Lt w.heap.size) w l := h.mono fun _ hb _ => hb
theorem PssAt.top {F : Nat → Prop} {w : World} {l : List PSl} (h : PssAt F w l) : PssAt (Lt w.heap.size) w l := h.mono fun _ hb _ => hb
theorem OMp.mono {F F' : Nat → Prop} {w : World} {b : Nat} {M : List (Int × RowV)} (h : OMp F w b M) (hd : ∀ g, g < w.heap.size → F g → F' g) : OMp F' w b M := ⟨h.1, fun p hp => (h.2 p hp).mono hd⟩
theorem TbIs.ext {γ : Prop} {w w' : World} {b : Nat} {t : TbV} {p : TbP} (h : TbIs w b t p) (x : Ext γ w w') : TbIs w' b t p :=
 ⟨h.at'.ext x, (h.e.ext x).top, (h.ew.ext x).top, (h.m.ext x).top, (h.mw.ext x).top, (h.j.ext x).top, (h.jw.ext x).top, (h.o.ext x).mono fun _ hb _ => hb, (h.tr.ext x).mono fun _ hb _ => hb, (h.g.ext x).top, (h.gw.ext x).top⟩
end Go.Lx
/- Facts that do not lean on a variable whose cells are zeros, pointers and empty slices. Nothing of a program stands here. -/
namespace Go.Lx
open Go Go.RowKit Go.MapKept Go.ChangeMaps
def CsOk (v : Value) : Prop := v = .int .i64 0 ∨ (∃ p, v = .pointer p) ∨ ∃ a c, v = .slice a 0 c
def Bx (w : World) (g : Nat) : Prop := ∃ T cs, Box w g T (.int .i64 0 :: cs) ∧ (∀ v ∈ cs, CsOk v) ∧ cs.length < 60
theorem csS {s : Str} : ¬ CsOk (str s) := by rintro (h | ⟨_, h⟩ | ⟨_, _, h⟩) <;> cases h
theorem csU {x : W64} : ¬ CsOk (u64 x) := by rintro (h | ⟨_, h⟩ | ⟨_, _, h⟩) <;> cases h
theorem csI {i : Int} (hi : i ≠ 0) : ¬ CsOk (.int .i64 i) := by
 rintro (h | ⟨_, h⟩ | ⟨_, _, h⟩)
 ·exact hi (by simpa using h)
 ·cases h
 ·cases h
theorem Bx.cell {w : World} {g i : Nat} {v : Value} (h : Bx w g) (hv : w.cell? ⟨g, i, none⟩ = some v) : CsOk v ∧ (i = 0 → v = .int .i64 0) ∧ i < 61 := by
 obtain ⟨T, cs, hB, hc, hl⟩ := h
 have hi : i < (Value.int .i64 0 :: cs).length := by
  apply Decidable.byContradiction
  intro hn
  unfold Box at hB
  simp [World.cell?, hB] at hv
  have := (List.getElem?_eq_some_iff.1 hv).1
  exact hn this
 have h2 := hB.at i _ (List.getElem?_eq_getElem hi)
 rw [Nat.zero_add, hv] at h2
 have h3 := Option.some.inj h2
 refine ⟨?_, ?_, ?_⟩
 ·rw [h3]
  rcases List.mem_cons.1 (List.getElem_mem hi) with e | e
  ·exact .inl e
  ·exact hc _ e
 ·rintro rfl
  exact h3
 ·simp at hi; omega
theorem At_bx {w : World} {b g off : Nat} {v : Value} {vs : List Value} (h : At w b off (v :: vs)) (hb : Bx w g) (hv : ¬ CsOk v) : b ≠ g := by
 rintro rfl
 exact hv (hb.cell (h 0 v rfl)).1
theorem At_bx0 {w : World} {b g : Nat} {v : Value} {vs : List Value} (h : At w b 0 (v :: vs)) (hb : Bx w g) (hv : v ≠ .int .i64 0) : b ≠ g := by
 rintro rfl
 exact hv ((hb.cell (h 0 v rfl)).2.1 rfl)
theorem Sl_bx {β : Type} {F : Nat → Prop} {w : World} {g k c : Nat} {enc : β → List Value} {a : Option Addr} {x : List β} (h : Sl enc k F w a c x) (hb : Bx w g) (hv : ∀ z ∈ x, ∃ v vs, enc z = v :: vs ∧ ¬ CsOk v) : Sl enc k (fun b => F b ∧ b ≠ g) w a c x :=
 ⟨h.le, h.cap, h.nil, fun i z hi => by
  obtain ⟨b, off, h1, h2, h3, h4⟩ := h.el i z hi
  obtain ⟨v, vs, e, hn⟩ := hv z (List.mem_of_getElem? hi)
  exact ⟨b, off, h1, ⟨⟨h2.1, At_bx (e ▸ h3) hb hn⟩, h2.2⟩, h3, h4⟩⟩
theorem Sl_bxN {β : Type} {F : Nat → Prop} {w : World} {g c : Nat} {enc : β → List Value} {a : Option Addr} {x : List β} (h : Sl enc 1 F w a c x) (hb : Bx w g) (hv : 64 ≤ x.length) : Sl enc 1 (fun b => F b ∧ b ≠ g) w a c x :=
 ⟨h.le, h.cap, h.nil, fun i z hi => by
  obtain ⟨b, off, h1, h2, h3, h4⟩ := h.el i z hi
  refine ⟨b, off, h1, ⟨⟨h2.1, ?_⟩, h2.2⟩, h3, h4⟩
  rintro rfl
  have hj : 63 < x.length := by omega
  obtain ⟨b', off', k1, k2, k3, k4⟩ := h.el 63 _ (List.getElem?_eq_getElem hj)
  rw [h1] at k1
  simp only [Option.some.injEq, Addr.mk.injEq, and_true] at k1
  obtain ⟨rfl, rfl⟩ := k1
  cases hz : enc x[63] with
  | nil => rw [hz] at k4; cases k4
  | cons v vs =>
   rw [hz] at k3
   have := (hb.cell (k3 0 v rfl)).2.2
   omega⟩
theorem wl_cs {x : W64} : ∀ z ∈ wl x, ∃ v vs, encU z = v :: vs ∧ ¬ CsOk v := fun z _ => ⟨u64 z, [], rfl, csU⟩
theorem Wds_bx {F : Nat → Prop} {w : World} {g : Nat} {l : List SV} (h : WdsAt F w l) (hb : Bx w g) : WdsAt (fun b => F b ∧ b ≠ g) w l := fun s hs => Sl_bx (h s hs) hb wl_cs
def NtF (F : Nat → Prop) (w : World) (v : Value) (l : List Str) : Prop := ∃ p a c m, v = .pointer (some ⟨p, 0, none⟩) ∧ F p ∧ At w p 0 [.slice a l.length c, m] ∧ Sl encS 1 F w a c l ∧ ((l = [] ∧ m = .map none) ∨ NmL l F m w)
section
variable {F F' D : Nat → Prop} {γ : Prop} {w w' : World} {v : Value} {g : Nat}
theorem NtF.is {l : List Str} (h : NtF F w v l) : NtM w v l :=
 let ⟨p, a, c, m, h1, _, h2, h3, h4⟩ := h
 ⟨p, a, c, m, h1, h2, h3.top, h4.imp id fun ⟨g, M, k1, _, k3, k4⟩ => ⟨g, M, k1, k3.lt, k3, k4⟩⟩
theorem NtM.f {l : List Str} (h : NtM w v l) : NtF (Lt w.heap.size) w v l :=
 let ⟨p, a, c, m, h1, h2, h3, h4⟩ := h
 ⟨p, a, c, m, h1, h2.lt, h2, h3, h4⟩
theorem NtF.keepD {l : List Str} (h : NtF F w v l) (x : Bel γ D w w') (hd : ∀ g, g < w.heap.size → F g → ¬ D g) : NtF F w' v l :=
 let ⟨p, a, c, m, h1, h0, h2, h3, h4⟩ := h
 ⟨p, a, c, m, h1, h0, h2.keep x (hd p h2.lt h0), h3.keep x hd, h4.imp id fun ⟨g, M, k1, k2, k3, k4⟩ => ⟨g, M, k1, k2, k3.keep x (hd g k3.lt k2), k4⟩⟩
theorem NtF.ext {l : List Str} (h : NtF F w v l) (x : Ext γ w w') : NtF F w' v l := h.keepD x fun _ _ _ => id
theorem NtF.mono {l : List Str} (h : NtF F w v l) (hd : ∀ g, g < w.heap.size → F g → F' g) : NtF F' w v l :=
 let ⟨p, a, c, m, h1, h0, h2, h3, h4⟩ := h
 ⟨p, a, c, m, h1, hd p h2.lt h0, h2, h3.mono hd, h4.imp id fun ⟨g, M, k1, k2, k3, k4⟩ => ⟨g, M, k1, hd g k3.lt k2, k3, k4⟩⟩
theorem NtF.blk {l : List Str} (h : NtF F w v l) : ∃ b, v = pB b ∧ NtF F w (pB b) l := let ⟨p, a, c, m, h1, h2⟩ := h; ⟨p, h1, p, a, c, m, rfl, h2⟩
theorem NtF.bx {l : List Str} (h : NtF F w v l) (hb : Bx w g) : NtF (fun b => F b ∧ b ≠ g) w v l := by
 obtain ⟨p, a, c, m, h1, h0, h2, h3, h4⟩ := h
 refine ⟨p, a, c, m, h1, ⟨h0, At_bx0 h2 hb (by simp)⟩, h2, Sl_bx h3 hb fun z _ => ⟨str z, [], rfl, csS⟩, h4.imp id fun ⟨g', M, k1, k2, k3, k4⟩ => ⟨g', M, k1, ⟨k2, ?_⟩, k3, k4⟩⟩
 rintro rfl
 obtain ⟨T, cs, hB, -⟩ := hb
 exact At_ne hB.at k3 rfl
def HyF (F : Nat → Prop) (w : World) (v : Value) (L : List Pr) : Prop := ∃ ph po o, v = .pointer (some ⟨ph, 0, none⟩) ∧ F ph ∧ At w ph 0 [.pointer (some ⟨po, 0, none⟩)] ∧ OdAt F w po o ∧ HOk o L
theorem HyF.is {L : List Pr} (h : HyF F w v L) : HyIs w v L :=
 let ⟨ph, po, o, h1, _, h2, h3, h4⟩ := h
 ⟨ph, po, o, h1, h2, h3.mono fun _ hb _ => hb, h4⟩
theorem HyIs.f {L : List Pr} (h : HyIs w v L) : HyF (Lt w.heap.size) w v L :=
 let ⟨ph, po, o, h1, h2, h3, h4⟩ := h
 ⟨ph, po, o, h1, h2.lt, h2, h3, h4⟩
theorem HyF.keepD {L : List Pr} (h : HyF F w v L) (x : Bel γ D w w') (hd : ∀ g, g < w.heap.size → F g → ¬ D g) : HyF F w' v L :=
 let ⟨ph, po, o, h1, h0, h2, h3, h4⟩ := h
 ⟨ph, po, o, h1, h0, h2.keep x (hd ph h2.lt h0), h3.keep x hd, h4⟩
theorem HyF.ext {L : List Pr} (h : HyF F w v L) (x : Ext γ w w') : HyF F w' v L := h.keepD x fun _ _ _ => id
theorem HyF.mono {L : List Pr} (h : HyF F w v L) (hd : ∀ g, g < w.heap.size → F g → F' g) : HyF F' w v L :=
 let ⟨ph, po, o, h1, h0, h2, h3, h4⟩ := h
 ⟨ph, po, o, h1, hd ph h2.lt h0, h2, h3.mono hd, h4⟩
theorem HyF.bx {L : List Pr} (h : HyF F w v L) (hb : Bx w g) (hL : ∀ z ∈ L, 1 ≤ z.1.val) : HyF (fun b => F b ∧ b ≠ g) w v L := by
 obtain ⟨ph, po, o, h1, h0, h2, h3, h4⟩ := h
 have hn := h4.n
 refine ⟨ph, po, o, h1, ⟨h0, At_bx0 h2 hb (by simp)⟩, h2, ⟨⟨h3.blk, At_bx h3.at' hb (csI (by rw [hn]; decide))⟩, h3.at', Sl_bx h3.pr hb fun z hz => ⟨_, _, rfl, csI ?_⟩, Sl_bxN h3.ab hb (by rw [h3.la, hn]; exact Nat.le_refl _), Sl_bxN h3.be hb (by rw [h3.lb, hn]; exact Nat.le_refl _), Wds_bx h3.wa hb, Wds_bx h3.wb hb, h3.la, h3.lb, h3.hn⟩, h4⟩
 have := hL z ((h4.ps z).1 hz)
 show ((z.1.val : Nat) : Int) ≠ 0
 omega
theorem MbIs.f {L : List Men} (h : MbIs w v L) : MbF (Lt w.heap.size) w v L :=
 let ⟨p, a, c, h1, h2, h3⟩ := h
 ⟨p, a, c, h1, h2.lt, h2, h3⟩
theorem MbF.bx {L : List Men} (h : MbF F w v L) (hb : Bx w g) (hL : ∀ z ∈ L, 1 ≤ z.u) : MbF (fun b => F b ∧ b ≠ g) w v L :=
 let ⟨p, a, c, h1, h0, h2, h3⟩ := h
 ⟨p, a, c, h1, ⟨h0, At_bx0 h2 hb (by simp)⟩, h2, Sl_bx h3 hb fun z hz => ⟨_, _, rfl, csI (by have := hL z hz; omega)⟩⟩
theorem GbF.bx {m : List Ent} (h : GbF F w v m) (hb : Bx w g) (hm : OkG m) : GbF (fun b => F b ∧ b ≠ g) w v m :=
 let ⟨p, a, c, h1, h0, h2, h3⟩ := h
 ⟨p, a, c, h1, ⟨h0, At_bx0 h2 hb (by simp)⟩, h2, Sl_bx h3 hb fun z hz => ⟨_, _, rfl, csI (by have := (hm.ve z hz).1; omega)⟩⟩
def BkF (F : Nat → Prop) (w : World) (v : Value) (m : List RS) : Prop := ∃ p b, v = .pointer (some ⟨p, 0, none⟩) ∧ BkAt F w p b ∧ b.m = m
theorem BkF.is {m : List RS} (h : BkF F w v m) : BkIs w v m :=
 let ⟨p, b, h1, h2, h3⟩ := h
 ⟨p, b, h1, h2.top, h3⟩
theorem BkIs.f {m : List RS} (h : BkIs w v m) : BkF (Lt w.heap.size) w v m := h
theorem BkF.keepD {m : List RS} (h : BkF F w v m) (x : Bel γ D w w') (hd : ∀ g, g < w.heap.size → F g → ¬ D g) : BkF F w' v m :=
 let ⟨p, b, h1, h2, h3⟩ := h
 ⟨p, b, h1, ⟨h2.blk, h2.at'.keep x (hd p h2.at'.lt h2.blk), h2.sl.keep x hd, fun s hs => (h2.ws s hs).keep x hd⟩, h3⟩
theorem BkF.ext {m : List RS} (h : BkF F w v m) (x : Ext γ w w') : BkF F w' v m := h.keepD x fun _ _ _ => id
theorem BkF.mono {m : List RS} (h : BkF F w v m) (hd : ∀ g, g < w.heap.size → F g → F' g) : BkF F' w v m :=
 let ⟨p, b, h1, h2, h3⟩ := h
 ⟨p, b, h1, ⟨hd p h2.at'.lt h2.blk, h2.at', h2.sl.mono hd, fun s hs => (h2.ws s hs).mono hd⟩, h3⟩
theorem BkF.bx {m : List RS} (h : BkF F w v m) (hb : Bx w g) (hm : ∀ z ∈ m, 1 ≤ z.n) : BkF (fun b => F b ∧ b ≠ g) w v m := by
 obtain ⟨p, b, h1, h2, rfl⟩ := h
 refine ⟨p, b, h1, ⟨⟨h2.blk, At_bx0 h2.at' hb (by simp)⟩, h2.at', Sl_bx h2.sl hb fun z hz => ⟨_, _, rfl, csI ?_⟩, fun s hs => Sl_bx (h2.ws s hs) hb wl_cs⟩, rfl⟩
 have := hm z.rs (List.mem_map_of_mem hz)
 have e : z.rs.n = z.n := rfl
 omega
variable {b1 b2 : Nat}
theorem bxP {T : TypeId} {a1 a2 a4 a5 a6 a9 : Option Addr} {s3 s7 s8 : Option Addr} {c3 c7 c8 : Nat} (h : Box w g T [.int .i64 0, .pointer a1, .pointer a2, .slice s3 0 c3, .pointer a4, .pointer a5, .pointer a6, .slice s7 0 c7, .slice s8 0 c8, .pointer a9]) : Bx w g := by
 refine ⟨T, _, h, fun v hv => ?_, by simp⟩
 simp only [List.mem_cons, List.not_mem_nil, or_false] at hv
 rcases hv with rfl | rfl | rfl | rfl | rfl | rfl | rfl | rfl | rfl <;> first | exact .inr (.inl ⟨_, rfl⟩) | exact .inr (.inr ⟨_, _, rfl⟩)
abbrev z8 : List Value := [.int .i64 0, .int .i64 0, .int .i64 0, .int .i64 0, .int .i64 0, .int .i64 0, .int .i64 0, .int .i64 0]
theorem bxE {T : TypeId} (h : Box w g T z8) : Bx w g := by
 refine ⟨T, _, h, fun v hv => ?_, by simp⟩
 simp only [List.mem_cons, List.not_mem_nil, or_false, or_self] at hv
 exact .inl hv
theorem NtM.bx2 {l : List Str} (h : NtM w v l) (h1 : Bx w b1) (h2 : Bx w b2) : NtF (fun g => g ≠ b1 ∧ g ≠ b2) w v l := ((h.f.bx h1).bx h2).mono fun g _ q => ⟨q.1.2, q.2⟩
theorem HyIs.bx2 {L : List Pr} (h : HyIs w v L) (h1 : Bx w b1) (h2 : Bx w b2) (hL : ∀ z ∈ L, 1 ≤ z.1.val) : HyF (fun g => g ≠ b1 ∧ g ≠ b2) w v L := ((h.f.bx h1 hL).bx h2 hL).mono fun g _ q => ⟨q.1.2, q.2⟩
theorem MbIs.bx2 {L : List Men} (h : MbIs w v L) (h1 : Bx w b1) (h2 : Bx w b2) (hL : ∀ z ∈ L, 1 ≤ z.u) : MbF (fun g => g ≠ b1 ∧ g ≠ b2) w v L := ((h.f.bx h1 hL).bx h2 hL).mono fun g _ q => ⟨q.1.2, q.2⟩
theorem GbIs.bx2 {m : List Ent} (h : GbIs w v m) (h1 : Bx w b1) (h2 : Bx w b2) (hm : OkG m) : GbF (fun g => g ≠ b1 ∧ g ≠ b2) w v m := ((h.f.bx h1 hm).bx h2 hm).mono fun g _ q => ⟨q.1.2, q.2⟩
theorem BkIs.bx2 {m : List RS} (h : BkIs w v m) (h1 : Bx w b1) (h2 : Bx w b2) (hm : ∀ z ∈ m, 1 ≤ z.n) : BkF (fun g => g ≠ b1 ∧ g ≠ b2) w v m := ((h.f.bx h1 hm).bx h2 hm).mono fun g _ q => ⟨q.1.2, q.2⟩
end
section
variable {rd : Option Nat} {P : Program} {n : Nat} {Q : Fr → World → Prop} {fr : Fr} {w : World} {ops : Array Oper} {rest : List Oper} {d : Option Nat} {t : TypeId} {ps : String} {af : Array Edge} {T K E : TypeId} {b r : Nat} {M left : List (Int × RowV)} {cur : Option (Int × RowV)} {x y z : Operand} {g : Option (Nat × Bool)}
theorem Rg_orng (hd : dstOk n d = true) (hT : P.underlying T = some (.map K E)) (hx : ev fr x = .map (some b)) (h : Mp ekI rowE w b M)
  (hk : ∀ r w', Ext True w w' → w.heap.size ≤ r → r < w'.heap.size → It ekI rowE w' r b M M none → Rg rd P n ops rest Q (fr.put d (.pointer (some ⟨r, 0, none⟩))) w') : Rg rd P n ops (⟨d, .range T x, t, ps, af, none⟩ :: rest) Q fr w :=
 Rg_rng hd hT hx h hk
theorem Rg_onext (hd : dstOk n d = true) (hx : ev fr x = .pointer (some ⟨r, 0, none⟩)) (h : It ekI rowE w r b M left cur) (hrb : r ≠ b)
  (h0 : left = [] → Rg rd P n ops rest Q (fr.put d (.tuple #[.bool false])) w)
  (hk : ∀ p left' w', left.Perm (p :: left') → Bel True (Only r) w w' → It ekI rowE w' r b M left' (some p) → Rg rd P n ops rest Q (fr.put d (.tuple #[.bool true, ekI p.1, rowE p.2])) w') : Rg rd P n ops (⟨d, .next x false, t, ps, af, none⟩ :: rest) Q fr w :=
 Rg_next hd hx h hrb h0 hk
theorem o_olook2 {k : Int} {u : RowV} (hT : P.underlying T = some (.map K E)) (hK : P.underlying K = some (.int .i64)) (hz : ∀ w, (zeroValue E).run P w = .ok (rowE rwz0) w) (h : Mp ekI rowE w b M) (hx : ev fr x = .map (some b)) (hy : ev fr y = .int .i64 k) (hu : getM M k = some u) :
  xop P fr w ⟨d, .lookup T x y true, t, ps, af, g⟩ = .ok (.value (.tuple #[rowE u, .bool true])) w := by
 have := Yr (ok := true) (d := d) (t := t) (ps := ps) (af := af) (g := g) (z0 := rwz0) (k := k) hT hK int_key hz h hx hy
 rw [hu] at this
 exact this
theorem o_maxS {m : Nat} {tys : Array TypeId} (hx : ev fr x = .int .i64 (m : Int)) (hy : ev fr y = .int .i64 (m : Int)) : xop P fr w ⟨d, .call { callee := .builtin .max, args := #[x, y], argTypes := tys }, t, ps, af, g⟩ = .ok (.value (.int .i64 (m : Int))) w := by
 rw [o_maxI hx hy, ite_self]
end
theorem it_perm {α : Type} {sn lf lf' M : List α} {p : α} (h : (sn ++ lf).Perm M) (hp : lf.Perm (p :: lf')) : ((sn ++ [p]) ++ lf').Perm M := by
 rw [List.append_assoc]
 exact (hp.symm.append_left sn).trans h
theorem it_mem {α : Type} {sn lf lf' M : List α} {p : α} (h : (sn ++ lf).Perm M) (hp : lf.Perm (p :: lf')) : p ∈ M :=
 h.mem_iff.1 (List.mem_append_right _ (hp.mem_iff.2 List.mem_cons_self))
theorem getM_mem {M : List (Int × RowV)} (hn : (M.map (·.1)).Nodup) {p : Int × RowV} (h : p ∈ M) : getM M p.1 = some p.2 := by
 obtain ⟨j, hj, e⟩ := List.mem_iff_getElem.1 h
 exact getM_at hn (by rw [List.getElem?_eq_getElem hj, e])
end Go.Lx
/- The first example of tables: its state, its tables; the grants that are kept. Nothing of a program stands here. -/
namespace Go.Lx
open Go Go.RowKit Go.MapKept Go.ChangeMaps
def usA : List Str := [[117, 49]]
def rsA : List Str := [[114, 49], [114, 50]]
def lkA : List Pr := [(1, 2)]
def mbA : List Men := [⟨1, 1, 5⟩]
def geA : Ent := ⟨2, ⟨[114, 101, 97, 100], [47, 97], true⟩⟩
def grA : List Ent := [geA]
def ssA : List RS := [⟨1, 1, 2⟩]
abbrev stM (L : List Men) : StV := ⟨usA, rsA, lkA, L, grA, ssA⟩
theorem geA_ok : geA.p.ok := ⟨by decide, by decide⟩
theorem gr_A : grantR [] geA = (grA, 0) := by decide +kernel
theorem grA_ok : OkG grA := by
 have h := OkG.grant OkG.nil (e := geA) geA_ok
 rw [gr_A] at h
 exact h
theorem mbA_ok : OkN mbA := ⟨by decide, fun x hx => by rw [List.mem_singleton.1 hx]; exact ⟨by decide, by decide, by decide⟩, List.pairwise_singleton _ _⟩
theorem mbN_ok : OkN [] := ⟨by decide, fun x hx => by (cases hx), List.Pairwise.nil⟩
theorem ssO_ok : OkM ([⟨1, 1, 0⟩] : List RS) := ⟨List.pairwise_singleton _ _, fun x hx => by rw [List.mem_singleton.1 hx]; decide, fun x hx => by rw [List.mem_singleton.1 hx]; decide, fun x hx => by rw [List.mem_singleton.1 hx]; decide⟩
theorem ssA_ok : OkM ssA := ⟨List.pairwise_singleton _ _, fun x hx => by rw [List.mem_singleton.1 hx]; decide, fun x hx => by rw [List.mem_singleton.1 hx]; decide, fun x hx => by rw [List.mem_singleton.1 hx]; decide⟩
theorem op_A : openR [] 1 = ([⟨1, 1, 0⟩], 1, 0) := by decide +kernel
theorem ac_A : setR [⟨1, 1, 0⟩] 1 1 true = (ssA, 0) := by decide +kernel
theorem stM_ok {L : List Men} (hL : OkN L) (h1 : ∀ x ∈ L, x.u ≤ 1 ∧ hasW 6 x.r = true) : StOk (stM L) :=
 ⟨.inl rfl, hL, grA_ok, ssA_ok, by show 1 ≤ 1000; decide, fun x hx => by rw [List.mem_singleton.1 hx]; exact (by decide : hasW 6 (iv (1 : Fin 64)) = true ∧ hasW 6 (iv (2 : Fin 64)) = true), fun x hx => h1 x hx, fun x hx => by rw [List.mem_singleton.1 hx]; exact (by decide : hasW 6 2 = true), fun x hx => by rw [List.mem_singleton.1 hx]; exact (by decide : (1 : Int) ≤ 1 ∧ subW 2 6 = true)⟩
theorem stA_ok : StOk (stM mbA) := stM_ok mbA_ok fun x hx => by rw [List.mem_singleton.1 hx]; decide
theorem stB_ok : StOk (stM []) := stM_ok mbN_ok fun x hx => by cases hx
theorem jun_1 : JunIs lkA 1 6 := by
 have h := (JIn.start lkA 1).next
 exact JIn.done (s := 6) h (by decide)
theorem jun_2 : JunIs lkA 2 4 := JIn.done (s := 4) (JIn.start lkA 2) (by decide)
theorem junA {od : OV} (h : HOk od lkA) : junO od ((0 + 1 : Nat) : Int) = 6 ∧ junO od ((1 + 1 : Nat) : Int) = 4 :=
 ⟨(h.jun (r := 1) (by decide)).uniq jun_1, (h.jun (r := 2) (by decide)).uniq jun_2⟩
theorem one_l {α β : Type} {f : α → β} {l : List α} {y : β} (h : l.map f = [y]) : ∃ x, l = [x] ∧ f x = y := by
 rcases l with _ | ⟨x, _ | ⟨z, l⟩⟩
 ·cases h
 ·exact ⟨x, rfl, by simpa using h⟩
 ·simp at h
theorem two_l {α β : Type} {f : α → β} {l : List α} {y y' : β} (h : l.map f = [y, y']) : ∃ x x', l = [x, x'] ∧ f x = y ∧ f x' = y' := by
 rcases l with _ | ⟨x, _ | ⟨z, _ | ⟨t, l⟩⟩⟩
 ·cases h
 ·simp at h
 ·exact ⟨x, z, rfl, by simpa using h⟩
 ·simp at h
theorem clA {a b : SV} (h1 : a.x = 6) (h2 : b.x = 4) : clW [a, b] (memW 2 64) = 6 ∧ clW [a, b] (memW 6 64) = 6 ∧ clW [a, b] (memW 0 64) = 0 := by
 have e1 : memW 2 64 = [1] := by decide
 have e2 : memW 6 64 = [1, 2] := by decide
 have e3 : memW 0 64 = [] := by decide
 have g1 : getV [a, b] (1 - 1) = a := rfl
 have g2 : getV [a, b] (2 - 1) = b := rfl
 rw [e1, e2, e3]
 simp only [clW, List.foldl_cons, List.foldl_nil, g1, g2, h1, h2]
 decide
structure TbA (t : TbV) (x y : W64) : Prop where
 j : t.J.map SV.x = [6, 4]
 e : t.E.map SV.x = [x]
 m : t.M.map SV.x = [y]
 o : ∃ z : SV, t.O = [(1, ⟨1, z⟩)] ∧ z.x = y
theorem range2 : List.range 2 = [0, 1] := rfl
theorem range1 : List.range 1 = [0] := rfl
theorem on_A : onW mbA ((0 + 1 : Nat) : Int) 0 = 2 := by decide
theorem on_B : onW [] ((0 + 1 : Nat) : Int) 0 = 0 := rfl
theorem tb_any {t : TbV} {L : List Men} {x y : W64} {l : List SE} (hJ : t.J.map SV.x = [6, 4]) (hE : t.E.map SV.x = (List.range 1).map (fun k => onW L ((k + 1 : Nat) : Int) 0)) (hx : onW L ((0 + 1 : Nat) : Int) 0 = x) (hM : t.M.map SV.x = t.E.map fun e => clW t.J (memW e.x 64)) (hl : l.map SE.rs = ssA) (hO : OSp t.J t.M l 1 t.O)
  (h1 : ∀ a b : SV, a.x = 6 → b.x = 4 → clW [a, b] (memW x 64) = y) (h2 : ∀ a b : SV, a.x = 6 → b.x = 4 → clW [a, b] (memW (2 &&& y) 64) = y) : TbA t x y := by
 rw [range1] at hE
 simp only [List.map_cons, List.map_nil] at hE
 rw [hx] at hE
 obtain ⟨a, b, eJ, ea, eb⟩ := two_l hJ
 obtain ⟨e, eE, ee⟩ := one_l hE
 have hM2 : t.M.map SV.x = [y] := by
  rw [hM, eE, eJ]
  simp only [List.map_cons, List.map_nil]
  rw [ee, h1 a b ea eb]
 obtain ⟨m, eM, em⟩ := one_l hM2
 obtain ⟨s, rfl, es⟩ := one_l hl
 refine ⟨hJ, hE, hM2, ?_⟩
 rcases hO with ⟨h, -⟩ | ⟨z, -, hO, hz⟩
 ·cases h
 have en : s.n = 1 := congrArg RS.n es
 have eu : s.u = 1 := congrArg RS.u es
 have ex : s.x = 2 := congrArg RS.x es
 have e0 : ([s] : List SE).getD 0 sez = s := rfl
 rw [e0, en, eu] at hO
 rw [e0, eJ, eM, eu, ex, show getV [m] (1 - 1) = m from rfl, em, h2 a b ea eb] at hz
 exact ⟨z, hO, hz⟩
theorem tbA_of {t : TbV} {od : OV} {l : List SE} (h : HOk od lkA) (hJ : t.J.map SV.x = (List.range 2).map (fun k => junO od ((k + 1 : Nat) : Int))) (hE : t.E.map SV.x = (List.range 1).map (fun k => onW mbA ((k + 1 : Nat) : Int) 0)) (hM : t.M.map SV.x = t.E.map fun e => clW t.J (memW e.x 64)) (hl : l.map SE.rs = ssA) (hO : OSp t.J t.M l 1 t.O) : TbA t 2 6 := by
 refine tb_any ?_ hE on_A hM hl hO (fun a b h1 h2 => (clA h1 h2).1) (fun a b h1 h2 => (clA h1 h2).1)
 rw [hJ, range2]
 simp only [List.map_cons, List.map_nil]
 rw [(junA h).1, (junA h).2]
theorem tbB_of {t : TbV} {l : List SE} (hJ : t.J.map SV.x = [6, 4]) (hE : t.E.map SV.x = (List.range 1).map (fun k => onW [] ((k + 1 : Nat) : Int) 0)) (hM : t.M.map SV.x = t.E.map fun e => clW t.J (memW e.x 64)) (hl : l.map SE.rs = ssA) (hO : OSp t.J t.M l 1 t.O) : TbA t 0 0 :=
 tb_any hJ hE on_B hM hl hO (fun a b h1 h2 => (clA h1 h2).2.2) (fun a b h1 h2 => (clA h1 h2).2.2)
theorem TbA.jl {t : TbV} {x y : W64} (h : TbA t x y) : t.J.length = 2 := by have := congrArg List.length h.j; simpa using this
theorem TbA.el {t : TbV} {x y : W64} (h : TbA t x y) : t.E.length = 1 := by have := congrArg List.length h.e; simpa using this
theorem TbA.ml {t : TbV} {x y : W64} (h : TbA t x y) : t.M.length = 1 := by have := congrArg List.length h.m; simpa using this
theorem TbA.e0 {t : TbV} {x y : W64} (h : TbA t x y) : (t.E.getD 0 sz).x = x := by
 obtain ⟨a, e, ea⟩ := one_l h.e
 rw [e]; exact ea
theorem TbA.m0 {t : TbV} {x y : W64} (h : TbA t x y) : (getV t.M (1 - 1)).x = y := by
 obtain ⟨a, e, ea⟩ := one_l h.m
 rw [e]; exact ea
theorem TbA.o1 {t : TbV} {x y : W64} (h : TbA t x y) : ((getM t.O 1).getD rwz0).s.x = y := by
 obtain ⟨z, e, hz⟩ := h.o
 rw [e]
 exact hz
theorem cov_A : covW grA [114, 101, 97, 100] [47, 97, 47, 98] = 4 := by decide +kernel
theorem of_12 : ofW [1, 2] = 6 := by decide
theorem of_2 : ofW [2] = 4 := by decide
def keep6 (m : List Ent) : List Ent := m.filter fun e => decide (e.r ≤ 6)
theorem JY {m : List Ent} (h : OkG m) : OkG (keep6 m) := ⟨h.asc.filter _, fun x hx => h.ve x (List.mem_filter.1 hx).1, Nat.le_trans (List.length_filter_le _ _) h.len⟩
theorem YS {m : List Ent} (h : OkG m) (k : Nat) : OkG (keep6 (m.take k)) := by
 have h2 : OkG (m.take k) := ⟨h.asc.sublist (List.take_sublist _ _), fun x hx => h.ve x (List.mem_of_mem_take hx), by rw [List.length_take]; have := h.len; omega⟩
 exact JY h2
theorem keep6_no {m : List Ent} {k : Nat} (hk : k < m.length) (hc : ¬ (m.getD k ez).r ≤ 6) : keep6 (m.take (k + 1)) = keep6 (m.take k) := by
 unfold keep6
 rw [Yu hk, List.filter_append]
 generalize m.getD k ez = y at hc ⊢
 simp [hc]
theorem keep6_yes {m : List Ent} {k : Nat} (hk : k < m.length) (hc : (m.getD k ez).r ≤ 6) : keep6 (m.take (k + 1)) = keep6 (m.take k) ++ [m.getD k ez] := by
 unfold keep6
 rw [Yu hk, List.filter_append]
 generalize m.getD k ez = y at hc ⊢
 simp [hc]
theorem keep6_grant {m : List Ent} (h : OkG m) {k : Nat} (hk : k < m.length) (hc : (m.getD k ez).r ≤ 6) : grantR (keep6 (m.take k)) (m.getD k ez) = (keep6 (m.take (k + 1)), 0) := by
 have hv := h.ve _ (gm (z := ez) hk)
 have hlt : ∀ y ∈ keep6 (m.take k), cmpE y (m.getD k ez) < 0 := by
  intro y hy
  obtain ⟨i, hi, e⟩ := List.mem_iff_getElem.1 (List.mem_filter.1 hy).1
  rw [List.length_take] at hi
  rw [List.getElem_take] at e
  have := List.pairwise_iff_getElem.1 h.asc i k (by omega) hk (by omega)
  rw [e] at this
  simpa [List.getD, hk] using this
 have hl : (keep6 (m.take k)).length < 1000 := by
  refine Nat.lt_of_le_of_lt (List.length_filter_le _ _) ?_
  rw [List.length_take]
  have := h.len
  omega
 have hni : m.getD k ez ∉ keep6 (m.take k) := fun hin => by
  have := hlt _ hin
  rw [(YE hv hv).2 rfl] at this
  exact absurd this (by decide)
 have hk0 : ¬ checkS (m.getD k ez).p ≠ 0 := fun hn => hn hv.2.2.2
 rw [grantR, if_neg (by have := hv.1; have := hv.2.1; omega), if_neg hk0, if_neg hni, if_neg (by omega), keep6_yes hk hc]
 rw [YW]
 refine List.any_eq_false.2 fun y hy => ?_
 have h1 := hlt y hy
 have h2 := YF ((YS h k).ve y hy) hv
 simp only [decide_eq_true_eq]
 omega
theorem in6 {r : Int} (h1 : 1 ≤ r) (h2 : r ≤ 6) : hasW 126 r = true := by
 rcases (by omega : r = 1 ∨ r = 2 ∨ r = 3 ∨ r = 4 ∨ r = 5 ∨ r = 6) with rfl | rfl | rfl | rfl | rfl | rfl <;> decide
def rs6 : List Str := [[97], [98], [99], [100], [101], [102]]
abbrev st6 (m : List Ent) : StV := ⟨[], rs6, [], [], keep6 m, []⟩
theorem st6_ok {m : List Ent} (h : OkG m) : StOk (st6 m) :=
 ⟨.inr rfl, mbN_ok, JY h, OkM.nil, Nat.zero_le _, fun x hx => by (cases hx), fun x hx => by (cases hx), fun x hx => by
  obtain ⟨h1, h2⟩ := List.mem_filter.1 hx
  exact in6 (h.ve x h1).1 (of_decide_eq_true h2), fun x hx => by (cases hx)⟩
theorem rs6_step (k : Nat) (hk : k < 6) : nmS (rs6.getD k []) = true ∧ (rs6.getD k []).length ≤ 1 ∧ rs6.getD k [] ∉ rs6.take k ∧ rs6.take (k + 1) = rs6.take k ++ [rs6.getD k []] := by
 match k, hk with
 | 0, _ => decide
 | 1, _ => decide
 | 2, _ => decide
 | 3, _ => decide
 | 4, _ => decide
 | 5, _ => decide
theorem o_saddE {P : Program} {fr : Fr} {w : World} {d : Option Nat} {t : TypeId} {ps : String} {af : Array Edge} {g : Option (Nat × Bool)} {x y : Operand} {T U : TypeId} {a b c : Str} (e : c = a ++ b) (hx : ev fr x = str a) (hy : ev fr y = str b) (hl : ((a.length + b.length : Nat) : Int) ≤ 9223372036854775807) : xop P fr w ⟨d, .binOp .add T x y U, t, ps, af, g⟩ = .ok (.value (str c)) w := by
 rw [e]
 exact o_sadd hx hy hl
def pthK (ns : List Str) (k : Nat) : Str := (ns.take k).flatMap fun n => 47 :: n
theorem pthK_succ {ns : List Str} {k : Nat} (h : k < ns.length) : pthK ns (k + 1) = pthK ns k ++ ([47] ++ ns.getD k []) := by
 unfold pthK
 rw [List.take_succ_eq_append_getElem h, List.flatMap_append]
 simp [List.getD, h]
theorem pth_len (l : List Str) : (l.flatMap fun n => (47 : UInt8) :: n).length = (l.map List.length).sum + l.length := by
 induction l with
 | nil => rfl
 | cons x r ih =>
  rw [List.flatMap_cons, List.length_append, ih, List.length_cons, List.map_cons, List.sum_cons, List.length_cons]
  omega
theorem take_sum : ∀ (l : List Nat) (k : Nat), (l.take k).sum ≤ l.sum
 | [], k => by simp
 | x :: r, 0 => by simp
 | x :: r, k + 1 => by
  have := take_sum r k
  rw [List.take_succ_cons, List.sum_cons, List.sum_cons]
  omega
theorem Y9 {ns : List Str} (h : (ns.map List.length).sum + ns.length ≤ 1048576) (k : Nat) : (pthK ns k).length ≤ 1048576 := by
 unfold pthK
 rw [pth_len]
 have h1 := take_sum (ns.map List.length) k
 rw [← List.map_take] at h1
 have h2 : (ns.take k).length ≤ ns.length := by rw [List.length_take]; omega
 omega
