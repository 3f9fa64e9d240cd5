/- Several texts in one file. -/
import Derived.Test.YtecjjgljkepajaaGreatDoorDraw
import Derived.Maps.RangeRun
import Derived.WalkSpells
import Derived.Test.YtecjjgljkepajaaGreatDoorNorm
set_option linter.unusedSimpArgs false
set_option linter.unusedVariables false
set_option linter.unnecessarySimpa false
set_option linter.unusedSectionVars false
/- Maps with keys of a basic type: what a block holds, in the order of its entries; look-up, store, length, deletion, and a range in whatever order. Nothing of a program stands here. -/
namespace Go.Lx
open Go Go.RowKit Go.MapKept Go.ChangeMaps
structure KeyEnc {κ : Type} (d : TypeDesc) (ek : κ → Value) : Prop where
 key : ∀ k, IsKey d (ek k)
 inj : ∀ a b, ek a = ek b → a = b
section
variable {κ α : Type} [DecidableEq κ]
def rowM (ek : κ → Value) (em : α → Value) (l : List (κ × α)) : List (Value × Value) := l.map fun p => (ek p.1, em p.2)
def entM (es : List MapEntry) : List (Value × Value) := es.map fun e => (e.key, e.val)
def Mp (ek : κ → Value) (em : α → Value) (w : World) (b : Nat) (l : List (κ × α)) : Prop :=
 ∃ es clock, w.heap[b]? = some (.map es clock) ∧ Stamped es clock ∧ entM es.toList = rowM ek em l
def It (ek : κ → Value) (em : α → Value) (w : World) (r b : Nat) (l left : List (κ × α)) (cur : Option (κ × α)) : Prop :=
 ∃ es clock seen, w.heap[b]? = some (.map es clock) ∧ Stamped es clock ∧ entM es.toList = rowM ek em l ∧ w.heap[r]? = some (.mapIter (some b) clock seen clock) ∧ entM (leftOf es seen).toList = rowM ek em left ∧
  ∀ p, cur = some p → ∃ e ∈ es.toList, (e.key, e.val) = (ek p.1, em p.2) ∧ ∃ s0 : Array Nat, seen = s0.push e.born
def getM (l : List (κ × α)) (k : κ) : Option α := (l.find? fun p => decide (p.1 = k)).map (·.2)
def putM (l : List (κ × α)) (k : κ) (a : α) : List (κ × α) := if l.any (fun p => decide (p.1 = k)) then l.map (fun p => if p.1 = k then (k, a) else p) else l ++ [(k, a)]
variable {ek : κ → Value} {em : α → Value} {w w' : World} {b r : Nat} {l left : List (κ × α)} {cur : Option (κ × α)}
theorem Mp.lt (h : Mp ek em w b l) : b < w.heap.size := let ⟨_, _, h1, _⟩ := h; (Array.getElem?_eq_some_iff.1 h1).1
theorem Mp.keep {γ : Prop} {D : Nat → Prop} (h : Mp ek em w b l) (x : Bel γ D w w') (hd : ¬ D b) : Mp ek em w' b l := by
 have hl := h.lt
 obtain ⟨es, c, h1, h2, h3⟩ := h
 exact ⟨es, c, by rw [x.block b hl hd]; exact h1, h2, h3⟩
theorem Mp.ext {γ : Prop} (h : Mp ek em w b l) (x : Ext γ w w') : Mp ek em w' b l := h.keep x id
theorem It.lt (h : It ek em w r b l left cur) : r < w.heap.size := let ⟨_, _, _, _, _, _, h1, _⟩ := h; (Array.getElem?_eq_some_iff.1 h1).1
theorem It.mp (h : It ek em w r b l left cur) : Mp ek em w b l := let ⟨es, c, _, h1, h2, h3, _⟩ := h; ⟨es, c, h1, h2, h3⟩
theorem It.keep {γ : Prop} {D : Nat → Prop} (h : It ek em w r b l left cur) (x : Bel γ D w w') (hd : ¬ D r) (hd' : ¬ D b) : It ek em w' r b l left cur := by
 have hl := h.lt
 have hl' := h.mp.lt
 obtain ⟨es, c, s, h1, h2, h3, h4, h5⟩ := h
 exact ⟨es, c, s, by rw [x.block b hl' hd']; exact h1, h2, h3, by rw [x.block r hl hd]; exact h4, h5⟩
theorem It.ext {γ : Prop} (h : It ek em w r b l left cur) (x : Ext γ w w') : It ek em w' r b l left cur := h.keep x id id
theorem entM_keys {es : List MapEntry} (h : entM es = rowM ek em l) : es.map (·.key) = l.map fun p => ek p.1 := by
 have := congrArg (List.map Prod.fst) h
 simpa [entM, rowM, List.map_map, Function.comp_def] using this
theorem ent_get {es : List MapEntry} (h : entM es = rowM ek em l) {j : Nat} {e : MapEntry} (hj : es[j]? = some e) : ∃ p, l[j]? = some p ∧ e.key = ek p.1 ∧ e.val = em p.2 := by
 have h1 : (entM es)[j]? = some (e.key, e.val) := by simp [entM, hj]
 rw [h] at h1
 simp only [rowM, List.getElem?_map] at h1
 cases hp : l[j]? with
 | none => simp [hp] at h1
 | some p =>
  simp [hp] at h1
  exact ⟨p, rfl, h1.1.symm, h1.2.symm⟩
theorem keys_nd {d : TypeDesc} (he : KeyEnc d ek) {es : Array MapEntry} {c : Nat} (hs : Stamped es c) (h : entM es.toList = rowM ek em l) : (l.map (·.1)).Nodup := by
 have h3 := hs.2.2
 rw [entM_keys h] at h3
 have : (l.map (·.1)).map ek = l.map fun p => ek p.1 := by simp [List.map_map, Function.comp_def]
 rw [← this] at h3
 exact (List.pairwise_map.1 h3).imp fun hne e => hne (by rw [e])
theorem Mp.nd {d : TypeDesc} (he : KeyEnc d ek) (h : Mp ek em w b l) : (l.map (·.1)).Nodup := let ⟨_, _, _, h2, h3⟩ := h; keys_nd he h2 h3
theorem getM_no {k : κ} (h : ∀ p ∈ l, p.1 ≠ k) : getM l k = none := by
 unfold getM
 rw [List.find?_eq_none.2 (fun p hp => by simpa using h p hp)]; rfl
theorem getM_at {k : κ} {a : α} {j : Nat} (hn : (l.map (·.1)).Nodup) (h : l[j]? = some (k, a)) : getM l k = some a := by
 unfold getM
 have hm : (k, a) ∈ l := List.mem_of_getElem? h
 cases hf : l.find? fun p => decide (p.1 = k) with
 | none => exact absurd (List.find?_eq_none.1 hf _ hm) (by simp)
 | some q =>
  have hq := List.mem_of_find?_eq_some hf
  have hk := List.find?_some hf
  simp only [decide_eq_true_eq] at hk
  have : q = (k, a) := by
   have hinj := (List.pairwise_map.1 hn)
   obtain ⟨i, hi, ei⟩ := List.getElem_of_mem hq
   obtain ⟨j', hj', ej⟩ := List.getElem_of_mem hm
   rcases Nat.lt_trichotomy i j' with hlt | heq | hlt
   ·have := (List.pairwise_iff_getElem.1 hinj) i j' hi hj' hlt
    rw [ei, ej] at this; exact absurd hk this
   ·subst heq; rw [← ei, ← ej]
   ·have := (List.pairwise_iff_getElem.1 hinj) j' i hj' hi hlt
    rw [ei, ej] at this; exact absurd hk.symm this
  rw [this]; rfl
section
variable {P : Program} {fr : Fr} {d : Option Nat} {t : TypeId} {ps : String} {af : Array Edge} {g : Option (Nat × Bool)} {x y z : Operand} {T K E : TypeId} {D : TypeDesc} {k : κ} {a z0 : α}
end
theorem Bel.block1 {β : Prop} {b : Nat} (w : World) (o : Obj) : Bel β (Only b) w (setBlock w b o) :=
 ⟨rfl, rfl, rfl, by simp [setBlock], fun j _ hj => by simp only [setBlock]; rw [Array.getElem?_setIfInBounds_ne (fun e => hj e.symm)], fun _ => Nat.le_refl _⟩
theorem block1_same {w : World} {b : Nat} {o1 : Obj} (h : w.heap[b]? = some o1) (o : Obj) : (setBlock w b o).heap[b]? = some o := by
 have hl := (Array.getElem?_eq_some_iff.1 h).1
 simp [setBlock, hl]
theorem putM_no {k : κ} {a : α} (h : ∀ p ∈ l, p.1 ≠ k) : putM l k a = l ++ [(k, a)] := by
 unfold putM
 rw [if_neg]
 rw [List.any_eq_true]
 rintro ⟨p, hp, e⟩
 exact h p hp (by simpa using e)
theorem other_key {l : List (κ × α)} {k : κ} {a : α} {i j : Nat} (hn : (l.map (·.1)).Nodup) (h : l[j]? = some (k, a)) {p : κ × α} (hp : l[i]? = some p) (hij : i ≠ j) : p.1 ≠ k := by
 have hinj := List.pairwise_iff_getElem.1 (List.pairwise_map.1 hn)
 obtain ⟨hi, ei⟩ := List.getElem?_eq_some_iff.1 hp
 obtain ⟨hj, ej⟩ := List.getElem?_eq_some_iff.1 h
 intro e
 rcases Nat.lt_or_gt_of_ne hij with hlt | hlt
 ·have := hinj i j hi hj hlt
  rw [ei, ej] at this; exact this e
 ·have := hinj j i hj hi hlt
  rw [ei, ej] at this; exact this e.symm
theorem putM_at {k : κ} {a0 a : α} {j : Nat} (hn : (l.map (·.1)).Nodup) (h : l[j]? = some (k, a0)) : putM l k a = l.set j (k, a) := by
 unfold putM
 rw [if_pos (List.any_eq_true.2 ⟨(k, a0), List.mem_of_getElem? h, by simp⟩)]
 apply List.ext_getElem?
 intro i
 rw [List.getElem?_map, List.getElem?_set]
 by_cases hij : j = i
 ·subst hij
  have hj := (List.getElem?_eq_some_iff.1 h).1
  rw [h]; simp [hj]
 ·rw [if_neg hij]
  cases hp : l[i]? with
  | none => rfl
  | some p =>
   have := other_key hn h hp (fun e => hij e.symm)
   simp [this]
theorem entM_modify {es : Array MapEntry} {j : Nat} {f : MapEntry → MapEntry} {e : MapEntry} (h : es[j]? = some e) : entM (es.modify j f).toList = (entM es.toList).set j ((f e).key, (f e).val) := by
 apply List.ext_getElem?
 intro i
 simp only [entM, List.getElem?_map, Array.getElem?_toList, Array.getElem?_modify, List.getElem?_set, List.length_map, Array.length_toList]
 have hj := (Array.getElem?_eq_some_iff.1 h).1
 by_cases hij : j = i
 ·subst hij
  have he := (Array.getElem?_eq_some_iff.1 h).2
  simp [h, hj, he]
 ·simp [hij]
section
variable {P : Program} {T K E : TypeId} {D : TypeDesc} {k : κ} {a : α}
theorem leftOf_all (es : Array MapEntry) : leftOf es #[] = es := by
 unfold leftOf
 rw [Array.filter_eq_self]
 intro x _; simp
theorem It.start {es : Array MapEntry} {c : Nat} (h1 : w.heap[b]? = some (.map es c)) (h2 : Stamped es c) (h3 : entM es.toList = rowM ek em l) : It ek em (w.alloc (.mapIter (some b) c #[] c)) w.heap.size b l l none := by
 have hl := (Array.getElem?_eq_some_iff.1 h1).1
 exact ⟨es, c, #[], by rw [heap_alloc_old w _ hl]; exact h1, h2, h3, heap_alloc_new w _, by rw [leftOf_all]; exact h3, fun p h => by cases h⟩
end
section
variable {rd : Option Nat} {P : Program} {n : Nat} {Q : Fr → World → Prop} {fr : Fr} {ops : Array Oper} {rest : List Oper} {d : Option Nat} {t : TypeId} {ps : String} {af : Array Edge} {T K E : TypeId} {D : TypeDesc} {k : κ} {a : α} {x y z : Operand}
theorem Rg_mmk (ek : κ → Value) (em : α → Value) (hd : dstOk n d = true)
  (hk : ∀ b w', Ext True w w' → w.heap.size ≤ b → b < w'.heap.size → Mp ek em w' b [] → Rg rd P n ops rest Q (fr.put d (.map (some b))) w') : Rg rd P n ops (⟨d, .makeMap T none, t, ps, af, none⟩ :: rest) Q fr w := by
 refine Rg_run hd (v := .map (some w.heap.size)) (w' := w.alloc (.map #[] 0)) ?_ (hk _ _ (Ext.alloc _ _) (Nat.le_refl _) (by simp) ⟨#[], 0, heap_alloc_new w _, stamped_empty 0, rfl⟩)
 simp [execOp, Instr.makeMap, newObj, Sem.run]
end
end
end Go.Lx
/- Ops and sets of ops: their keys, their errors, their order. Nothing of a program stands here. -/
namespace Go.Lx
open Go
structure OKey where
 k : Int
 a : Int
 b : Int
 p : Perm
 deriving DecidableEq
structure COp where
 add : Bool
 k : Int
 a : Int
 b : Int
 u : Int
 p : Perm
 deriving DecidableEq
def COp.key (o : COp) : OKey := ⟨o.k, o.a, o.b, o.p⟩
def encRo (o : COp) : List Value := [.bool o.add, .int .i64 o.k, .int .i64 o.a, .int .i64 o.b, .int .i64 o.u, str o.p.act, str o.p.path, .bool o.p.deep]
def encCo (o : COp) : List Value := [.bool o.add, .int .u8 o.k, .int .i64 o.a, .int .i64 o.b, .int .i64 o.u, str o.p.act, str o.p.path, .bool o.p.deep]
def encRk (o : OKey) : List Value := [.int .i64 o.k, .int .i64 o.a, .int .i64 o.b, str o.p.act, str o.p.path, .bool o.p.deep]
def encCk (o : OKey) : List Value := [.int .u8 o.k, .int .i64 o.a, .int .i64 o.b, str o.p.act, str o.p.path, .bool o.p.deep]
theorem encRo_ok : EncOk encRo 8 := ⟨by decide, fun _ => rfl, fun x u hu => by
 simp [encRo] at hu
 rcases hu with rfl | rfl | rfl | rfl | rfl | rfl | rfl | rfl <;> rfl⟩
theorem encCo_ok : EncOk encCo 8 := ⟨by decide, fun _ => rfl, fun x u hu => by
 simp [encCo] at hu
 rcases hu with rfl | rfl | rfl | rfl | rfl | rfl | rfl | rfl <;> rfl⟩
theorem encRk_ok : EncOk encRk 6 := ⟨by decide, fun _ => rfl, fun x u hu => by
 simp [encRk] at hu
 rcases hu with rfl | rfl | rfl | rfl | rfl | rfl <;> rfl⟩
theorem encCk_ok : EncOk encCk 6 := ⟨by decide, fun _ => rfl, fun x u hu => by
 simp [encCk] at hu
 rcases hu with rfl | rfl | rfl | rfl | rfl | rfl <;> rfl⟩
def coz : COp := ⟨false, 0, 0, 0, 0, pz⟩
def okz : OKey := ⟨0, 0, 0, pz⟩
def checkO (o : COp) : Int :=
 if o.k < 1 ∨ 3 < o.k then 1 else
 if (o.k ≠ 2 ∧ o.p ≠ pz) ∨ (o.k ≠ 1 ∧ o.u ≠ 0) ∨ (o.k = 2 ∧ o.b ≠ 0) then 6 else
 if o.k = 1 then (if o.a < 1 ∨ 256 < o.a ∨ o.b < 1 ∨ 63 < o.b ∨ o.u < 0 ∨ 30000 < o.u then 2 else 0) else
 if o.k = 2 then (if o.a < 1 ∨ 63 < o.a then 2 else checkS o.p) else
 if o.a < 1 ∨ 63 < o.a ∨ o.b < 1 ∨ 63 < o.b then 2 else if o.a = o.b then 6 else 0
structure Vo (o : COp) : Prop where
 ok : o.p.ok
 chk : checkO o = 0
theorem Vo.rng {o : COp} (h : Vo o) : 1 ≤ o.k ∧ o.k ≤ 3 ∧ 1 ≤ o.a ∧ o.a ≤ 256 ∧ 0 ≤ o.b ∧ o.b ≤ 63 ∧ 0 ≤ o.u ∧ o.u ≤ 30000 := by
 have h1 := h.chk
 unfold checkO at h1
 by_cases c1 : o.k < 1 ∨ 3 < o.k
 ·rw [if_pos c1] at h1; omega
 rw [if_neg c1] at h1
 by_cases c2 : (o.k ≠ 2 ∧ o.p ≠ pz) ∨ (o.k ≠ 1 ∧ o.u ≠ 0) ∨ (o.k = 2 ∧ o.b ≠ 0)
 ·rw [if_pos c2] at h1; omega
 rw [if_neg c2] at h1
 by_cases c3 : o.k = 1
 ·rw [if_pos c3] at h1
  by_cases c4 : o.a < 1 ∨ 256 < o.a ∨ o.b < 1 ∨ 63 < o.b ∨ o.u < 0 ∨ 30000 < o.u
  ·rw [if_pos c4] at h1; omega
  ·omega
 rw [if_neg c3] at h1
 have cu : o.u = 0 := by
  refine Classical.byContradiction fun hn => c2 (.inr (.inl ⟨c3, hn⟩))
 by_cases c5 : o.k = 2
 ·rw [if_pos c5] at h1
  have cb : o.b = 0 := Classical.byContradiction fun hn => c2 (.inr (.inr ⟨c5, hn⟩))
  by_cases c6 : o.a < 1 ∨ 63 < o.a
  ·rw [if_pos c6] at h1; omega
  ·omega
 rw [if_neg c5] at h1
 by_cases c7 : o.a < 1 ∨ 63 < o.a ∨ o.b < 1 ∨ 63 < o.b
 ·rw [if_pos c7] at h1; omega
 ·omega
theorem Vo.perm {o : COp} (h : Vo o) : o.p = pz ∨ Vp o.p := by
 have h1 := h.chk
 have hr := h.rng
 unfold checkO at h1
 rw [if_neg (by omega)] at h1
 by_cases c2 : (o.k ≠ 2 ∧ o.p ≠ pz) ∨ (o.k ≠ 1 ∧ o.u ≠ 0) ∨ (o.k = 2 ∧ o.b ≠ 0)
 ·rw [if_pos c2] at h1; omega
 rw [if_neg c2] at h1
 by_cases c5 : o.k = 2
 ·rw [if_neg (by omega), if_pos c5] at h1
  by_cases c6 : o.a < 1 ∨ 63 < o.a
  ·rw [if_pos c6] at h1; omega
  ·rw [if_neg c6] at h1; exact .inr ⟨h.ok, h1⟩
 ·exact .inl (Classical.byContradiction fun hn => c2 (.inl ⟨c5, hn⟩))
def cmpK (x y : OKey) : Int := if x.k ≠ y.k then x.k - y.k else if x.a ≠ y.a then x.a - y.a else if x.b ≠ y.b then x.b - y.b else cmpM x.p y.p
def cmpO (x y : COp) : Int := if cmpK x.key y.key ≠ 0 then cmpK x.key y.key else if x.add = y.add then 0 else if y.add then -1 else 1
abbrev WP := { x : Perm // x = pz ∨ Vp x }
theorem cmpS_nil {s : Str} (h : s ≠ []) : cmpS [] s = -1 ∧ cmpS s [] = 1 := by
 have h1 : cmpS s [] ≠ 0 := fun e => h ((cmpS_is.eq _ _).1 e)
 have h2 : Op.bytesLess s [] = false := by cases s <;> rfl
 have h3 := cmpS_cases s []
 have h4 : cmpS s [] = 1 := by
  rcases h3 with ⟨_, e⟩ | ⟨e, _⟩ | ⟨e, _⟩
  ·rw [h2] at e; cases e
  ·exact absurd e h1
  ·exact e
 exact ⟨by rw [cmpS_is.anti s [], h4], h4⟩
theorem Vp.act {x : Perm} (h : Vp x) : x.act ≠ [] := fun e => by
 have h1 := h.2
 unfold checkS at h1
 rw [e] at h1
 simp [nmS] at h1
theorem cmpM_pz {x : Perm} (h : Vp x) : cmpM pz x = -1 ∧ cmpM x pz = 1 := by
 obtain ⟨h1, h2⟩ := cmpS_nil h.act
 constructor
 ·show (if cmpS [] x.act != 0 then cmpS [] x.act else _) = _
  rw [h1]; rfl
 ·show (if cmpS x.act [] != 0 then cmpS x.act [] else _) = _
  rw [h2]; rfl
theorem cmpM_pp : cmpM pz pz = 0 := by decide +kernel
theorem not_vp : ¬ Vp pz := fun h => h.act rfl
theorem cmpW_is : IsCmp fun a b : WP => cmpM a.1 b.1 := by
 refine ⟨?_, ?_, ?_⟩
 ·rintro ⟨a, rfl | ha⟩ ⟨b, rfl | hb⟩
  ·exact ⟨fun _ => rfl, fun _ => cmpM_pp⟩
  ·constructor
   ·intro e; simp only [(cmpM_pz hb).1] at e; omega
   ·intro e; have := Subtype.mk.inj e; subst this; exact absurd hb not_vp
  ·constructor
   ·intro e; simp only [(cmpM_pz ha).2] at e; omega
   ·intro e; have := Subtype.mk.inj e; subst this; exact absurd ha not_vp
  ·have := cmpV_is.eq ⟨a, ha⟩ ⟨b, hb⟩
   simp only [Subtype.mk.injEq] at this ⊢
   exact this
 ·rintro ⟨a, rfl | ha⟩ ⟨b, rfl | hb⟩
  ·simp only [cmpM_pp]; rfl
  ·simp only [(cmpM_pz hb).1, (cmpM_pz hb).2]; rfl
  ·simp only [(cmpM_pz ha).1, (cmpM_pz ha).2]
  ·exact cmpV_is.anti ⟨a, ha⟩ ⟨b, hb⟩
 ·rintro ⟨a, rfl | ha⟩ ⟨b, rfl | hb⟩ ⟨c, rfl | hc⟩ h1 h2
  ·simp only [cmpM_pp] at h1; omega
  ·exact h2
  ·simp only [(cmpM_pz hb).2] at h2; omega
  ·simp only [(cmpM_pz hc).1]; omega
  ·simp only [(cmpM_pz ha).2] at h1; omega
  ·simp only [(cmpM_pz ha).2] at h1; omega
  ·simp only [(cmpM_pz hb).2] at h2; omega
  ·exact cmpV_is.tr ⟨a, ha⟩ ⟨b, hb⟩ ⟨c, hc⟩ h1 h2
def cmpD (a b : Int) : Int := a - b
theorem cmpD_is : IsCmp cmpD := ⟨fun a b => by unfold cmpD; omega, fun a b => by unfold cmpD; omega, fun a b c => by unfold cmpD; omega⟩
def Wk (x : OKey) : Prop := x.p = pz ∨ Vp x.p
abbrev WK := { x : OKey // Wk x }
def keyK (x : WK) : Int × Int × Int × WP := (x.1.k, x.1.a, x.1.b, ⟨x.1.p, x.2⟩)
theorem cmpK_lex (x y : WK) : cmpK x.1 y.1 = lex cmpD (lex cmpD (lex cmpD fun a b : WP => cmpM a.1 b.1)) (keyK x) (keyK y) := by
 simp only [cmpK, lex, keyK, cmpD]
 by_cases h1 : x.1.k = y.1.k
 ·by_cases h2 : x.1.a = y.1.a
  ·by_cases h3 : x.1.b = y.1.b
   ·simp [h1, h2, h3]
   ·have : ¬ x.1.b - y.1.b = 0 := by omega
    simp [h1, h2, h3, this]
  ·have : ¬ x.1.a - y.1.a = 0 := by omega
   simp [h1, h2, this]
 ·have : ¬ x.1.k - y.1.k = 0 := by omega
  simp [h1, this]
theorem cmpK_is : IsCmp fun a b : WK => cmpK a.1 b.1 := by
 have h := (lex_is cmpD_is (lex_is cmpD_is (lex_is cmpD_is cmpW_is))).map keyK (fun a b e => by
  obtain ⟨⟨k1, a1, b1, p1⟩, ha⟩ := a
  obtain ⟨⟨k2, a2, b2, p2⟩, hb⟩ := b
  simp only [keyK, Prod.mk.injEq, Subtype.mk.injEq] at e
  obtain ⟨rfl, rfl, rfl, e4⟩ := e
  have e5 := Subtype.mk.inj e4
  subst e5
  rfl)
 have e : (fun a b : WK => cmpK a.1 b.1) = fun a b : WK => lex cmpD (lex cmpD (lex cmpD fun a b : WP => cmpM a.1 b.1)) (keyK a) (keyK b) := by
  funext a b; exact cmpK_lex a b
 rw [e]; exact h
def Wo (x : COp) : Prop := Wk x.key
theorem Vo.wo {o : COp} (h : Vo o) : Wo o := h.perm
section
variable {x y z : COp}
theorem cmpK_eq (hx : Wo x) (hy : Wo y) : cmpK x.key y.key = 0 ↔ x.key = y.key := by
 have := cmpK_is.eq ⟨x.key, hx⟩ ⟨y.key, hy⟩
 exact this.trans ⟨fun e => congrArg Subtype.val e, fun e => Subtype.ext e⟩
theorem cmpK_anti (hx : Wo x) (hy : Wo y) : cmpK y.key x.key = - cmpK x.key y.key := cmpK_is.anti ⟨x.key, hx⟩ ⟨y.key, hy⟩
def cmpF (x y : COp) : Int := if cmpO x y ≠ 0 then cmpO x y else x.u - y.u
abbrev WO := { x : COp // Wo x }
def keyF (x : WO) : WK × Bool × Int := (⟨x.1.key, x.2⟩, x.1.add, x.1.u)
theorem cmpO_lex (x y : WO) : cmpO x.1 y.1 = lex (fun a b : WK => cmpK a.1 b.1) cmpB ((keyF x).1, (keyF x).2.1) ((keyF y).1, (keyF y).2.1) := by
 simp only [cmpO, lex, keyF, cmpB]
 by_cases h1 : cmpK x.1.key y.1.key = 0
 ·by_cases h2 : x.1.add = y.1.add <;> (simp [h1, h2] <;> rfl)
 ·simp [h1]
theorem cmpF_lex (x y : WO) : cmpF x.1 y.1 = lex (fun a b : WK => cmpK a.1 b.1) (lex cmpB cmpD) (keyF x) (keyF y) := by
 rw [cmpF, cmpO_lex]
 simp only [lex, keyF, cmpD]
 by_cases h1 : cmpK x.1.key y.1.key = 0
 ·by_cases h2 : cmpB x.1.add y.1.add = 0
  ·simp [h1, h2]
  ·simp [h1, h2]
 ·simp [h1]
theorem cmpF_is : IsCmp fun a b : WO => cmpF a.1 b.1 := by
 have h := (lex_is cmpK_is (lex_is cmpB_is cmpD_is)).map keyF (fun a b e => by
  obtain ⟨⟨d1, k1, a1, b1, u1, p1⟩, ha⟩ := a
  obtain ⟨⟨d2, k2, a2, b2, u2, p2⟩, hb⟩ := b
  simp only [keyF, Prod.mk.injEq, Subtype.mk.injEq, COp.key, OKey.mk.injEq] at e
  obtain ⟨⟨rfl, rfl, rfl, rfl⟩, rfl, rfl⟩ := e
  rfl)
 have e : (fun a b : WO => cmpF a.1 b.1) = fun a b : WO => lex (fun a b : WK => cmpK a.1 b.1) (lex cmpB cmpD) (keyF a) (keyF b) := by
  funext a b; exact cmpF_lex a b
 rw [e]; exact h
theorem cmpO_eq (hx : Wo x) (hy : Wo y) : cmpO x y = 0 ↔ x.key = y.key ∧ x.add = y.add := by
 unfold cmpO
 rw [← cmpK_eq hx hy]
 by_cases h : cmpK x.key y.key = 0
 ·rw [if_neg (by simpa using h)]
  by_cases h2 : x.add = y.add
  ·rw [if_pos h2]; exact ⟨fun _ => ⟨h, h2⟩, fun _ => rfl⟩
  ·rw [if_neg h2]
   constructor
   ·intro e; split at e <;> omega
   ·intro e; exact absurd e.2 h2
 ·rw [if_pos h]; exact ⟨fun e => absurd e h, fun e => absurd e.1 h⟩
theorem cmpO_anti (hx : Wo x) (hy : Wo y) : cmpO y x = - cmpO x y := by
 rw [cmpO_lex ⟨y, hy⟩ ⟨x, hx⟩, cmpO_lex ⟨x, hx⟩ ⟨y, hy⟩]
 exact (lex_is cmpK_is cmpB_is).anti _ _
theorem cmpO_tr (hx : Wo x) (hy : Wo y) (hz : Wo z) (h : cmpO x y < 0) (h2 : cmpO y z < 0) : cmpO x z < 0 := by
 rw [cmpO_lex ⟨x, hx⟩ ⟨y, hy⟩] at h
 rw [cmpO_lex ⟨y, hy⟩ ⟨z, hz⟩] at h2
 rw [cmpO_lex ⟨x, hx⟩ ⟨z, hz⟩]
 exact (lex_is cmpK_is cmpB_is).tr _ _ _ h h2
theorem cmpO_le_K (h : cmpO x y ≤ 0) : cmpK x.key y.key ≤ 0 := by
 unfold cmpO at h
 by_cases h1 : cmpK x.key y.key = 0
 ·omega
 ·rw [if_pos h1] at h; exact h
theorem cmpO_same (h : cmpO x y ≤ 0) (hk : cmpK x.key y.key = 0) : x.add = y.add ∨ (x.add = false ∧ y.add = true) := by
 unfold cmpO at h
 rw [if_neg (by simpa using hk)] at h
 cases hx : x.add <;> cases hy : y.add <;> simp [hx, hy] at h ⊢
end
def confl (x y : COp) : Bool := decide (x.key = y.key) && (x.k != 1 || x.add == y.add || x.u == y.u)
theorem confl_symm (x y : COp) : confl x y = confl y x := by
 unfold confl
 by_cases h : x.key = y.key
 ·have hk : x.k = y.k := congrArg OKey.k h
  rw [decide_eq_true h, decide_eq_true h.symm, hk]
  have e1 : (x.add == y.add) = (y.add == x.add) := by rw [Bool.eq_iff_iff, beq_iff_eq, beq_iff_eq]; exact ⟨Eq.symm, Eq.symm⟩
  have e2 : (x.u == y.u) = (y.u == x.u) := by rw [Bool.eq_iff_iff, beq_iff_eq, beq_iff_eq]; exact ⟨Eq.symm, Eq.symm⟩
  rw [e1, e2]
 ·rw [decide_eq_false h, decide_eq_false (fun e => h e.symm)]; rfl
def CF (l : List COp) : Prop := l.Pairwise fun x y => confl x y = false
instance (l : List COp) : Decidable (CF l) := inferInstanceAs (Decidable (l.Pairwise _))
theorem CF.perm {l m : List COp} (h : CF l) (hp : l.Perm m) : CF m := (hp.pairwise_iff (fun {a b} e => by rw [confl_symm]; exact e)).1 h
theorem confl_no {x y : COp} (h : confl x y = false) (hk : x.key = y.key) : x.k = 1 ∧ x.add ≠ y.add ∧ x.u ≠ y.u := by
 unfold confl at h
 rw [decide_eq_true hk, Bool.true_and, Bool.or_eq_false_iff, Bool.or_eq_false_iff] at h
 exact ⟨by simpa using h.1.1, by simpa using h.1.2, by simpa using h.2⟩
def sortO (l : List COp) : List COp := l.foldl (fun acc o => insGo cmpO o acc) []
section
variable {α : Type} {f : α → α → Int}
theorem insGo_perm (p : α) : ∀ (l : List α), (insGo f p l).Perm (p :: l)
 | [] => List.Perm.refl _
 | y :: r => by
  unfold insGo
  split
  ·exact List.Perm.refl _
  ·exact ((insGo_perm p r).cons y).trans (List.Perm.swap _ _ _)
theorem insF_perm : ∀ (l acc : List α), (l.foldl (fun acc o => insGo f o acc) acc).Perm (l ++ acc)
 | [], acc => List.Perm.refl _
 | x :: r, acc => by
  refine (insF_perm r (insGo f x acc)).trans ?_
  exact ((insGo_perm x acc).append_left r).trans List.perm_middle
end
theorem sortO_perm (l : List COp) : (sortO l).Perm l := by
 have := insF_perm (f := cmpO) l []
 rwa [List.append_nil] at this
theorem insGo_le {p : COp} (hp : Wo p) : ∀ {l : List COp}, (∀ x ∈ l, Wo x) → l.Pairwise (fun x y => cmpO x y ≤ 0) → (insGo cmpO p l).Pairwise (fun x y => cmpO x y ≤ 0)
 | [], _, _ => by simp [insGo]
 | y :: r, hw, hl => by
  obtain ⟨h1, h2⟩ := List.pairwise_cons.1 hl
  have hy := hw y (by simp)
  unfold insGo
  split
  ·rename_i hlt
   refine List.pairwise_cons.2 ⟨fun z hz => ?_, hl⟩
   rcases List.mem_cons.1 hz with rfl | hz
   ·omega
   ·have hzw := hw z (by simp [hz])
    have hyz := h1 z hz
    rcases Int.lt_or_eq_of_le hyz with h3 | h3
    ·have := cmpO_tr hp hy hzw hlt h3; omega
    ·-- y and z stand alike
     have e1 := (cmpO_eq hy hzw).1 h3
     have : cmpO p z = cmpO p y := by
      unfold cmpO
      rw [e1.1, e1.2]
     omega
  ·rename_i hge
   refine List.pairwise_cons.2 ⟨fun z hz => ?_, insGo_le hp (fun x hx => hw x (by simp [hx])) h2⟩
   rcases insGo_mem.1 hz with rfl | hz
   ·have := cmpO_anti hp hy; omega
   ·exact h1 z hz
theorem insF_le : ∀ (l acc : List COp), (∀ x ∈ l, Wo x) → (∀ x ∈ acc, Wo x) → acc.Pairwise (fun x y => cmpO x y ≤ 0) → (l.foldl (fun acc o => insGo cmpO o acc) acc).Pairwise (fun x y => cmpO x y ≤ 0)
 | [], acc, _, _, h => h
 | x :: r, acc, hl, ha, h => by
  refine insF_le r (insGo cmpO x acc) (fun z hz => hl z (by simp [hz])) (fun z hz => ?_) (insGo_le (hl x (by simp)) ha h)
  rcases insGo_mem.1 hz with rfl | hz
  ·exact hl z (by simp)
  ·exact ha z hz
theorem sortO_le {l : List COp} (hl : ∀ x ∈ l, Wo x) : (sortO l).Pairwise (fun x y => cmpO x y ≤ 0) := insF_le l [] hl (by simp) List.Pairwise.nil
theorem le_lt {l : List COp} (hl : ∀ x ∈ l, Wo x) (hc : CF l) (h : l.Pairwise fun x y => cmpO x y ≤ 0) : l.Pairwise fun x y => cmpO x y < 0 := by
 refine (h.and hc).imp_of_mem fun {x y} hx hy hh => ?_
 rcases Int.lt_or_eq_of_le hh.1 with h3 | h3
 ·exact h3
 ·have e := (cmpO_eq (hl x hx) (hl y hy)).1 h3
  exact absurd e.2 (confl_no hh.2 e.1).2.1
theorem lt_cmpF {x y : COp} (h : cmpO x y < 0) : cmpF x y < 0 := by
 unfold cmpF; rw [if_pos (by omega)]; exact h
def woL : (l : List COp) → (∀ x ∈ l, Wo x) → List WO
 | [], _ => []
 | x :: r, h => ⟨x, h x (by simp)⟩ :: woL r (fun y hy => h y (by simp [hy]))
theorem woL_map : ∀ (l : List COp) (h : ∀ x ∈ l, Wo x), (woL l h).map (·.1) = l
 | [], _ => rfl
 | x :: r, h => by simp [woL, woL_map r]
theorem lt_unique {a b : List COp} (ha : ∀ x ∈ a, Wo x) (hb : ∀ x ∈ b, Wo x) (h1 : a.Pairwise fun x y => cmpO x y < 0) (h2 : b.Pairwise fun x y => cmpO x y < 0) (hm : ∀ x, x ∈ a ↔ x ∈ b) : a = b := by
 have e : woL a ha = woL b hb := by
  refine pw_unique cmpF_is ?_ ?_ ?_
  ·rw [← List.pairwise_map (f := fun x : WO => x.1) (R := fun x y => cmpF x y < 0), woL_map]; exact h1.imp lt_cmpF
  ·rw [← List.pairwise_map (f := fun x : WO => x.1) (R := fun x y => cmpF x y < 0), woL_map]; exact h2.imp lt_cmpF
  ·rintro ⟨x, hx⟩
   have e1 : ∀ (l : List COp) (h : ∀ x ∈ l, Wo x), (⟨x, hx⟩ : WO) ∈ woL l h ↔ x ∈ l := fun l h => by
    conv => rhs; rw [← woL_map l h]
    rw [List.mem_map]
    exact ⟨fun q => ⟨_, q, rfl⟩, fun ⟨q, hq, e⟩ => by have : q = ⟨x, hx⟩ := Subtype.ext e; exact this ▸ hq⟩
   rw [e1, e1]; exact hm x
 rw [← woL_map a ha, e, woL_map]
theorem sort_unique {l m : List COp} (hl : ∀ x ∈ l, Wo x) (hc : CF l) (hp : m.Perm l) (hs : m.Pairwise fun x y => cmpO x y ≤ 0) : m = sortO l := by
 have hm : ∀ x ∈ m, Wo x := fun x hx => hl x (hp.mem_iff.1 hx)
 have hso : ∀ x ∈ sortO l, Wo x := fun x hx => hl x ((sortO_perm l).mem_iff.1 hx)
 exact lt_unique hm hso (le_lt hm (hc.perm hp.symm) hs) (le_lt hso (hc.perm (sortO_perm l).symm) (sortO_le hl)) fun x => by rw [hp.mem_iff, (sortO_perm l).mem_iff]
def adjB (x y : COp) : Bool := decide (x.key = y.key) && (x.add || !y.add || x.k != 1 || x.u == y.u)
theorem adj_confl {x y : COp} (hx : Wo x) (hy : Wo y) (h : cmpO x y ≤ 0) : adjB x y = confl x y := by
 unfold adjB confl
 by_cases hk : x.key = y.key
 ·rw [decide_eq_true hk, Bool.true_and, Bool.true_and]
  rcases cmpO_same h ((cmpK_eq hx hy).2 hk) with e | ⟨e1, e2⟩
  ·rw [e]; cases y.add <;> simp
  ·rw [e1, e2]; simp
 ·rw [decide_eq_false hk]; rfl
theorem adj_cf {l : List COp} (hl : ∀ x ∈ l, Wo x) (hs : l.Pairwise fun x y => cmpO x y ≤ 0) (ha : ∀ i, i + 1 < l.length → adjB (l.getD i coz) (l.getD (i + 1) coz) = false) : CF l := by
 rw [CF, List.pairwise_iff_getElem]
 have hg : ∀ i (h : i < l.length), l.getD i coz = l[i] := fun i h => by simp [List.getD, h]
 have hm : ∀ i (h : i < l.length), Wo l[i] := fun i h => hl _ (List.getElem_mem h)
 have hle : ∀ i j (hi : i < l.length) (hj : j < l.length), i < j → cmpO l[i] l[j] ≤ 0 := fun i j hi hj h => List.pairwise_iff_getElem.1 hs i j hi hj h
 have adj : ∀ i (hi : i + 1 < l.length), confl l[i] l[i + 1] = false := fun i hi => by
  have := ha i hi
  rw [hg i (by omega), hg (i + 1) hi, adj_confl (hm i (by omega)) (hm _ hi) (hle i (i + 1) (by omega) hi (by omega))] at this
  exact this
 intro i j hi hj hij
 rcases Nat.lt_or_ge (i + 1) j with h2 | h2
 ·rw [Bool.eq_false_iff]
  intro hc
  have hk : l[i].key = l[j].key := by
   unfold confl at hc
   rw [Bool.and_eq_true] at hc
   exact of_decide_eq_true hc.1
  -- the ones between have the key too
  have hmid : ∀ m (hm' : m < l.length), i < m → m < j → l[m].key = l[i].key := fun m hm' h3 h4 => by
   have a1 := cmpO_le_K (hle i m hi hm' h3)
   have a2 := cmpO_le_K (hle m j hm' hj h4)
   rw [← hk] at a2
   have a3 := cmpK_anti (hm i hi) (hm m hm')
   exact ((cmpK_eq (hm m hm') (hm i hi)).1 (by omega))
  have k1 := hmid (i + 1) (by omega) (by omega) h2
  have c1 := confl_no (adj i (by omega)) k1.symm
  have s1 := cmpO_same (hle i (i + 1) hi (by omega) (by omega)) ((cmpK_eq (hm i hi) (hm _ _)).2 k1.symm)
  have t1 : l[i + 1].add = true := by
   rcases s1 with e | e
   ·exact absurd e c1.2.1
   ·exact e.2
  have k2 : l[i + 2].key = l[i].key := by
   rcases Nat.lt_or_ge (i + 2) j with h5 | h5
   ·exact hmid (i + 2) (by omega) (by omega) h5
   ·have : j = i + 2 := by omega
    subst this; exact hk.symm
  have c2 := confl_no (adj (i + 1) (by omega)) (k1.trans k2.symm)
  have s2 := cmpO_same (hle (i + 1) (i + 2) (by omega) (by omega) (by omega)) ((cmpK_eq (hm _ _) (hm _ _)).2 (k1.trans k2.symm))
  rcases s2 with e | e
  ·exact absurd e c2.2.1
  ·rw [t1] at e; exact absurd e.1 (by decide)
 ·have : j = i + 1 := by omega
  subst this
  exact adj i hj
theorem cf_adj {l : List COp} (hl : ∀ x ∈ l, Wo x) (hs : l.Pairwise fun x y => cmpO x y ≤ 0) (hc : CF l) {i : Nat} (hi : i + 1 < l.length) : adjB (l.getD i coz) (l.getD (i + 1) coz) = false := by
 have hg : ∀ i (h : i < l.length), l.getD i coz = l[i] := fun i h => by simp [List.getD, h]
 rw [hg i (by omega), hg (i + 1) hi, adj_confl (hl _ (List.getElem_mem _)) (hl _ (List.getElem_mem _)) (List.pairwise_iff_getElem.1 hs i (i + 1) (by omega) hi (by omega))]
 exact List.pairwise_iff_getElem.1 hc i (i + 1) (by omega) hi (by omega)
structure Kr (x : OKey) : Prop where
 k : 0 ≤ x.k ∧ x.k ≤ 255
 a : 0 ≤ x.a ∧ x.a ≤ 256
 b : 0 ≤ x.b ∧ x.b ≤ 256
 ok : x.p.ok
theorem Vo.kr {o : COp} (h : Vo o) : Kr o.key := by
 have h1 := h.rng
 exact ⟨⟨by show 0 ≤ o.k; omega, by show o.k ≤ 255; omega⟩, ⟨by show 0 ≤ o.a; omega, by show o.a ≤ 256; omega⟩, ⟨by show 0 ≤ o.b; omega, by show o.b ≤ 256; omega⟩, h.ok⟩
def errO (l : List COp) : Int := ((l.find? fun o => checkO o != 0).map checkO).getD 0
def ofO (l : List COp) : List COp × Int := if errO l ≠ 0 then ([], errO l) else if CF l then (sortO l, 0) else ([], 12)
theorem errO_none {l : List COp} : errO l = 0 ↔ ∀ o ∈ l, checkO o = 0 := by
 unfold errO
 cases h : l.find? fun o => checkO o != 0 with
 | none =>
  rw [List.find?_eq_none] at h
  exact ⟨fun _ o ho => by have := h o ho; simpa using this, fun _ => rfl⟩
 | some x =>
  have h1 := List.find?_some h
  have h2 := List.mem_of_find?_eq_some h
  simp only [bne_iff_ne, ne_eq] at h1
  exact ⟨fun e => absurd e h1, fun e => absurd (e x h2) h1⟩
theorem errO_at {l : List COp} {k : Nat} (hk : k < l.length) (hn : ∀ j, j < k → checkO (l.getD j coz) = 0) (he : checkO (l.getD k coz) ≠ 0) : errO l = checkO (l.getD k coz) := by
 have e1 : l = l.take k ++ l.getD k coz :: l.drop (k + 1) := by
  have : l.getD k coz = l[k] := by simp [List.getD, hk]
  rw [this, ← List.drop_eq_getElem_cons hk, List.take_append_drop]
 have e2 : (l.take k).find? (fun o => checkO o != 0) = none := by
  rw [List.find?_eq_none]
  intro o ho
  obtain ⟨j, hj, rfl⟩ := List.mem_iff_getElem.1 ho
  rw [List.length_take] at hj
  have := hn j (by omega)
  rw [List.getElem_take]
  have e3 : l.getD j coz = l[j] := by simp [List.getD, show j < l.length by omega]
  rw [e3] at this
  simpa using this
 unfold errO
 have e4 : l.find? (fun o => checkO o != 0) = some (l.getD k coz) := by
  rw [e1, List.find?_append, e2, Option.none_or]
  have h5 : ∀ (z : COp) (r : List COp), checkO z ≠ 0 → (z :: r).find? (fun o => checkO o != 0) = some z := fun z r hz => by
   rw [List.find?_cons_of_pos]
   simpa using hz
  rw [← e1]; exact h5 _ _ he
 rw [e4]; rfl
section
variable {x y : COp}
theorem lessO_k (h : x.k ≠ y.k) : decide (x.k < y.k) = decide (cmpO x y < 0) := by
 have e : cmpK x.key y.key = x.k - y.k := by rw [cmpK, if_pos (show x.key.k ≠ y.key.k from h)]; rfl
 have e2 : cmpO x y = x.k - y.k := by unfold cmpO; rw [e, if_pos (by omega)]
 rw [e2, decide_eq_decide]; omega
theorem lessO_a (h : x.k = y.k) (h2 : x.a ≠ y.a) : decide (x.a < y.a) = decide (cmpO x y < 0) := by
 have e : cmpK x.key y.key = x.a - y.a := by rw [cmpK, if_neg (by simpa [COp.key] using h), if_pos (show x.key.a ≠ y.key.a from h2)]; rfl
 have e2 : cmpO x y = x.a - y.a := by unfold cmpO; rw [e, if_pos (by omega)]
 rw [e2, decide_eq_decide]; omega
theorem lessO_b (h : x.k = y.k) (h2 : x.a = y.a) (h3 : x.b ≠ y.b) : decide (x.b < y.b) = decide (cmpO x y < 0) := by
 have e : cmpK x.key y.key = x.b - y.b := by rw [cmpK, if_neg (by simpa [COp.key] using h), if_neg (by simpa [COp.key] using h2), if_pos (show x.key.b ≠ y.key.b from h3)]; rfl
 have e2 : cmpO x y = x.b - y.b := by unfold cmpO; rw [e, if_pos (by omega)]
 rw [e2, decide_eq_decide]; omega
theorem cmpK_p (h : x.k = y.k) (h2 : x.a = y.a) (h3 : x.b = y.b) : cmpK x.key y.key = cmpM x.p y.p := by
 rw [cmpK, if_neg (by simpa [COp.key] using h), if_neg (by simpa [COp.key] using h2), if_neg (by simpa [COp.key] using h3)]; rfl
theorem lessO_p (h : x.k = y.k) (h2 : x.a = y.a) (h3 : x.b = y.b) (h4 : cmpM x.p y.p ≠ 0) : decide (cmpM x.p y.p < 0) = decide (cmpO x y < 0) := by
 have e2 : cmpO x y = cmpM x.p y.p := by unfold cmpO; rw [cmpK_p h h2 h3, if_pos h4]
 rw [e2]
theorem lessO_e (h : x.k = y.k) (h2 : x.a = y.a) (h3 : x.b = y.b) (h4 : cmpM x.p y.p = 0) : (!x.add && y.add) = decide (cmpO x y < 0) := by
 have e2 : cmpO x y = if x.add = y.add then 0 else if y.add then -1 else 1 := by unfold cmpO; rw [cmpK_p h h2 h3, if_neg (by simpa using h4)]
 rw [e2]; cases x.add <;> cases y.add <;> decide
end
theorem sortO_succ {l : List COp} {k : Nat} (h : k < l.length) : sortO (l.take (k + 1)) = insGo cmpO (l.getD k coz) (sortO (l.take k)) := by
 have e : l.getD k coz = l[k] := by simp [List.getD, h]
 rw [List.take_succ_eq_append_getElem h, e]
 unfold sortO
 rw [List.foldl_append]; rfl
theorem sortO_len (l : List COp) : (sortO l).length = l.length := (sortO_perm l).length_eq
theorem insGo_atO {p : COp} : ∀ {m : List COp} {i : Nat}, i ≤ m.length → (∀ t, t < i → ¬ cmpO p (m.getD t coz) < 0) → (i < m.length → cmpO p (m.getD i coz) < 0) → insGo cmpO p m = m.take i ++ p :: m.drop i
 | [], i, h, _, _ => by
  have : i = 0 := by simpa using h
  subst this; rfl
 | x :: r, 0, _, _, h => by
  have := h (by simp)
  simp only [List.getD_cons_zero] at this
  rw [insGo, if_pos this]; rfl
 | x :: r, i + 1, hi, h, h2 => by
  have h0 := h 0 (by omega)
  simp only [List.getD_cons_zero] at h0
  rw [insGo, if_neg h0, insGo_atO (i := i) (by simpa using hi) (fun t ht => by have := h (t + 1) (by omega); simpa using this) (fun hl => by have := h2 (by simpa using hl); simpa using this)]
  rfl
theorem cf_snoc {l : List COp} {i : Nat} (hi : i < l.length) (h : CF (l.take i)) (hn : ∀ t, t < i → confl (l.getD i coz) (l.getD t coz) = false) : CF (l.take (i + 1)) := by
 have e : l.getD i coz = l[i] := by simp [List.getD, hi]
 unfold CF at h ⊢
 rw [List.take_succ_eq_append_getElem hi, List.pairwise_append]
 refine ⟨h, by simp, fun x hx y hy => ?_⟩
 have hy' : y = l[i] := by simpa using hy
 subst hy'
 obtain ⟨t, ht, rfl⟩ := List.mem_iff_getElem.1 hx
 rw [List.length_take] at ht
 have := hn t (by omega)
 have e2 : l.getD t coz = l[t] := by simp [List.getD, show t < l.length by omega]
 rw [e, e2] at this
 rw [List.getElem_take, confl_symm]; exact this
theorem cf_no {l : List COp} {i t : Nat} (hi : i < l.length) (ht : t < i) (h : confl (l.getD i coz) (l.getD t coz) = true) : ¬ CF l := fun hc => by
 have e : l.getD i coz = l[i] := by simp [List.getD, hi]
 have e2 : l.getD t coz = l[t] := by simp [List.getD, show t < l.length by omega]
 have := List.pairwise_iff_getElem.1 hc t i (by omega) hi ht
 rw [e, e2, confl_symm] at h
 rw [this] at h; cases h
end Go.Lx
