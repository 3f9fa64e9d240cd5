/- Several texts in one file. -/
import Derived.Test.YtdnkjdmfnmdpdaaGreatDoorHy
import Derived.Test.YtdnkjdmfnmdpdaaGreatDoorDraw
import Derived.Test.YtdnkjdmfnmdpdaaGreatDoorPure11e
import Derived.Test.YtdnkjdmfnmdpdaaGreatDoorStr
import Derived.Maps.RangeRun
import Derived.WalkSpells
set_option linter.unusedSimpArgs false
set_option linter.unusedVariables false
set_option linter.unnecessarySimpa false
set_option linter.unusedSectionVars false
/- Books of grants in memory; the law's operations. Nothing of a program stands here. -/
namespace Go.Lx
open Go Go.RowKit
def GbIs (w : World) (v : Value) (m : List Ent) : Prop := ∃ p a c, v = .pointer (some ⟨p, 0, none⟩) ∧ At w p 0 [.slice a m.length c] ∧ Sl encE 4 (Lt w.heap.size) w a c m
theorem GbIs.ext {γ : Prop} {w w' : World} {v : Value} {m : List Ent} (h : GbIs w v m) (x : Ext γ w w') : GbIs w' v m :=
 let ⟨p, a, c, h1, h2, h3⟩ := h
 ⟨p, a, c, h1, h2.keep x id, (h3.ext x).top⟩
def GbF (F : Nat → Prop) (w : World) (v : Value) (m : List Ent) : Prop := ∃ p a c, v = .pointer (some ⟨p, 0, none⟩) ∧ F p ∧ At w p 0 [.slice a m.length c] ∧ Sl encE 4 F w a c m
section
variable {F F' D : Nat → Prop} {γ : Prop} {w w' : World} {v : Value} {m : List Ent}
theorem GbF.keep (h : GbF F w v m) (x : Bel γ D w w') (hd : ∀ b, b < w.heap.size → F b → ¬ D b) : GbF F w' v m :=
 let ⟨p, a, c, h1, h2, h3, h4⟩ := h
 ⟨p, a, c, h1, h2, h3.keep x (hd p h3.lt h2), h4.keep x hd⟩
theorem GbF.ext (h : GbF F w v m) (x : Ext γ w w') : GbF F w' v m := h.keep x fun _ _ _ => id
theorem GbF.mono (h : GbF F w v m) (hd : ∀ b, b < w.heap.size → F b → F' b) : GbF F' w v m :=
 let ⟨p, a, c, h1, h2, h3, h4⟩ := h
 ⟨p, a, c, h1, hd p h3.lt h2, h3, h4.mono hd⟩
theorem GbF.is (h : GbF F w v m) : GbIs w v m :=
 let ⟨p, a, c, h1, _, h3, h4⟩ := h
 ⟨p, a, c, h1, h3, h4.top⟩
theorem GbIs.f (h : GbIs w v m) : GbF (Lt w.heap.size) w v m :=
 let ⟨p, a, c, h1, h3, h4⟩ := h
 ⟨p, a, c, h1, h3.lt, h3, h4⟩
end
def GbP (w : World) (p : Value) (e : Int) (m : List Ent) : Prop := (e = 0 → GbIs w p m) ∧ (e ≠ 0 → p = .pointer none)
theorem GbP.ext {γ : Prop} {w w' : World} {p : Value} {e : Int} {m : List Ent} (h : GbP w p e m) (x : Ext γ w w') : GbP w' p e m := ⟨fun he => (h.1 he).ext x, h.2⟩
def GbO (w : World) (p : Value) (m : List Ent) : Prop := GbIs w p m ∨ p = .pointer none ∧ m = []
theorem GbO.ext {γ : Prop} {w w' : World} {p : Value} {m : List Ent} (h : GbO w p m) (x : Ext γ w w') : GbO w' p m := h.imp (·.ext x) id
structure GOp where
 wd : Bool
 rl : UInt8
 p : RawV
def roleL : List Int := [0, 63, 64, -1, 65, 62]
def roleN (n : UInt8) : Int := if 250 ≤ n.toNat then roleL.getD (n.toNat - 250) 0 else 1 + ((n.toNat % 6 : Nat) : Int)
def GOp.ent (o : GOp) : Ent := ⟨roleN o.rl, o.p.perm⟩
theorem GOp.okp (o : GOp) : o.ent.p.ok := o.p.ok
def stepGr (m : List Ent) (o : GOp) : List Ent × Int := if o.wd then dropR m o.ent else grantR m o.ent
theorem OkG.step {m : List Ent} (h : OkG m) (o : GOp) : OkG (stepGr m o).1 := by
 unfold stepGr
 split
 ·exact h.drop _
 ·exact h.grant o.okp
theorem lessE_ne {a b : Ent} (h : (a.r != b.r) = true) : decide (a.r < b.r) = lessE a b := by
 have h1 : a.r ≠ b.r := by simpa using h
 rw [lessE, cmpE, if_pos h]
 unfold cmpI
 rw [Bool.eq_iff_iff, decide_eq_true_iff, decide_eq_true_iff]
 (repeat' split) <;> omega
theorem lessE_eq {a b : Ent} (h : (a.r != b.r) = false) : decide (cmpM a.p b.p < 0) = lessE a b := by
 rw [lessE, cmpE, if_neg (by rw [h]; simp)]
end Go.Lx
/- What the walks ask of this program's types of grants. -/
namespace Go.Proofs.YtdnkjdmfnmdpdaaGreatDoor
open Go Go.Lx
set_option maxRecDepth 10000
theorem eqF_consA {P : Program} {d k : Nat} {xs ys a b : Array Value} {f : Field} {fs : List Field} {r r' : Bool} (hn : f.name ≠ "_") (ha : ∀ w, (isAgg f.type).run P w = .ok true w) (hs : ∀ w, (sizeOf f.type).run P w = .ok k w) (hx : xs.extract f.offset (f.offset + k) = a) (hy : ys.extract f.offset (f.offset + k) = b)
  (he : ∀ w, (Op.equalIn d f.type (.agg a) (.agg b)).run P w = .ok r w) (hr : ∀ w, (Op.eqFields d xs ys fs).run P w = .ok r' w) : ∀ w, (Op.eqFields d xs ys (f :: fs)).run P w = .ok (r && r') w := by
 intro w
 simp only [Op.eqFields, hn, ne_eq, not_false_eq_true, if_true, Sem.run_bind, part, ha, hs, Result.andThen_ok, hx, hy, Sem.run_pure, he]
 cases r
 ·simp
 ·simp [hr]
theorem eqI_int (d : Nat) (x y : Int) : ∀ w, (Op.equalIn (d + 1) 3 (.int .i64 x) (.int .i64 y)).run Tryz.prog w = .ok (x == y) w := by
 intro w
 simp [Op.equalIn, run_underlying Tryz.underlying3]
theorem entBeq (x y : Ent) : (x == y) = ((x.r == y.r) && (x.p == y.p)) := by
 obtain ⟨a, b⟩ := x
 obtain ⟨a', b'⟩ := y
 rw [Bool.eq_iff_iff]
 simp only [Bool.and_eq_true, beq_iff_eq, Ent.mk.injEq]
theorem eq_rpermD (x y : Perm) : ∀ w, (Op.equalIn 9999 42 (.agg (encP x).toArray) (.agg (encP y).toArray)).run Tryz.prog w = .ok (x == y) w := fun w => by
 rw [run_equalIn_struct w 9998 _ _ _ (by kernel_rfl) (by kernel_rfl), permBeq, Bool.and_assoc, Program.fieldsOf, Tryz.underlying42]
 have h3 : ((x.deep == y.deep) : Bool) = ((x.deep == y.deep) && true) := (Bool.and_true _).symm
 rw [h3]
 exact eqF_cons (by simp) Tryz.isAgg9 rfl rfl (eqI_str _ _ Tryz.underlying9) (eqF_cons (by simp) Tryz.isAgg9 rfl rfl (eqI_str _ _ Tryz.underlying9) (eqF_cons (by simp) Tryz.isAgg4 rfl rfl (fun w => run_equalIn_bool' w _ _ _ _ Tryz.underlying4) eqF_nil)) w
theorem eq_rent : EqT Tryz.prog 114 encE := ⟨by kernel_rfl, fun w x y => by
 rw [run_equalIn_struct w 9999 _ _ _ (by kernel_rfl) (by kernel_rfl), entBeq, Program.fieldsOf, Tryz.underlying114]
 have h3 : ((x.p == y.p) : Bool) = ((x.p == y.p) && true) := (Bool.and_true _).symm
 rw [h3]
 exact eqF_cons (by simp) Tryz.isAgg3 rfl rfl (eqI_int _ _ _) (eqF_consA (by simp) Tryz.isAgg42 Tryz.sizeOf42 rfl rfl (eq_rpermD x.p y.p) eqF_nil) w⟩
theorem el_rent : ElT Tryz.prog 33 114 4 48 (.agg #[.int .i64 0, .string ⟨#[]⟩, .string ⟨#[]⟩, .bool false]) := ⟨Tryz.underlying33, ⟨Tryz.t114, by kernel_rfl, rfl, rfl, rfl⟩, rfl, by decide, by decide⟩
end Go.Proofs.YtdnkjdmfnmdpdaaGreatDoor
/- Maps with keys of a basic type: what a block holds, in the order of its entries; look-up, store, length, deletion, and a range in whatever order. Nothing of a program stands here. -/
namespace Go.Lx
open Go Go.RowKit Go.MapKept Go.ChangeMaps
structure KeyEnc {κ : Type} (d : TypeDesc) (ek : κ → Value) : Prop where
 key : ∀ k, IsKey d (ek k)
 inj : ∀ a b, ek a = ek b → a = b
section
variable {κ α : Type} [DecidableEq κ]
def rowM (ek : κ → Value) (em : α → Value) (l : List (κ × α)) : List (Value × Value) := l.map fun p => (ek p.1, em p.2)
def entM (es : List MapEntry) : List (Value × Value) := es.map fun e => (e.key, e.val)
def Mp (ek : κ → Value) (em : α → Value) (w : World) (b : Nat) (l : List (κ × α)) : Prop :=
 ∃ es clock, w.heap[b]? = some (.map es clock) ∧ Stamped es clock ∧ entM es.toList = rowM ek em l
def It (ek : κ → Value) (em : α → Value) (w : World) (r b : Nat) (l left : List (κ × α)) (cur : Option (κ × α)) : Prop :=
 ∃ es clock seen, w.heap[b]? = some (.map es clock) ∧ Stamped es clock ∧ entM es.toList = rowM ek em l ∧ w.heap[r]? = some (.mapIter (some b) clock seen clock) ∧ entM (leftOf es seen).toList = rowM ek em left ∧
  ∀ p, cur = some p → ∃ e ∈ es.toList, (e.key, e.val) = (ek p.1, em p.2) ∧ ∃ s0 : Array Nat, seen = s0.push e.born
def getM (l : List (κ × α)) (k : κ) : Option α := (l.find? fun p => decide (p.1 = k)).map (·.2)
def putM (l : List (κ × α)) (k : κ) (a : α) : List (κ × α) := if l.any (fun p => decide (p.1 = k)) then l.map (fun p => if p.1 = k then (k, a) else p) else l ++ [(k, a)]
variable {ek : κ → Value} {em : α → Value} {w w' : World} {b r : Nat} {l left : List (κ × α)} {cur : Option (κ × α)}
theorem Mp.lt (h : Mp ek em w b l) : b < w.heap.size := let ⟨_, _, h1, _⟩ := h; (Array.getElem?_eq_some_iff.1 h1).1
theorem Mp.keep {γ : Prop} {D : Nat → Prop} (h : Mp ek em w b l) (x : Bel γ D w w') (hd : ¬ D b) : Mp ek em w' b l := by
 have hl := h.lt
 obtain ⟨es, c, h1, h2, h3⟩ := h
 exact ⟨es, c, by rw [x.block b hl hd]; exact h1, h2, h3⟩
theorem Mp.ext {γ : Prop} (h : Mp ek em w b l) (x : Ext γ w w') : Mp ek em w' b l := h.keep x id
theorem It.lt (h : It ek em w r b l left cur) : r < w.heap.size := let ⟨_, _, _, _, _, _, h1, _⟩ := h; (Array.getElem?_eq_some_iff.1 h1).1
theorem It.mp (h : It ek em w r b l left cur) : Mp ek em w b l := let ⟨es, c, _, h1, h2, h3, _⟩ := h; ⟨es, c, h1, h2, h3⟩
theorem It.keep {γ : Prop} {D : Nat → Prop} (h : It ek em w r b l left cur) (x : Bel γ D w w') (hd : ¬ D r) (hd' : ¬ D b) : It ek em w' r b l left cur := by
 have hl := h.lt
 have hl' := h.mp.lt
 obtain ⟨es, c, s, h1, h2, h3, h4, h5⟩ := h
 exact ⟨es, c, s, by rw [x.block b hl' hd']; exact h1, h2, h3, by rw [x.block r hl hd]; exact h4, h5⟩
theorem It.ext {γ : Prop} (h : It ek em w r b l left cur) (x : Ext γ w w') : It ek em w' r b l left cur := h.keep x id id
theorem entM_keys {es : List MapEntry} (h : entM es = rowM ek em l) : es.map (·.key) = l.map fun p => ek p.1 := by
 have := congrArg (List.map Prod.fst) h
 simpa [entM, rowM, List.map_map, Function.comp_def] using this
theorem ent_get {es : List MapEntry} (h : entM es = rowM ek em l) {j : Nat} {e : MapEntry} (hj : es[j]? = some e) : ∃ p, l[j]? = some p ∧ e.key = ek p.1 ∧ e.val = em p.2 := by
 have h1 : (entM es)[j]? = some (e.key, e.val) := by simp [entM, hj]
 rw [h] at h1
 simp only [rowM, List.getElem?_map] at h1
 cases hp : l[j]? with
 | none => simp [hp] at h1
 | some p =>
  simp [hp] at h1
  exact ⟨p, rfl, h1.1.symm, h1.2.symm⟩
theorem keys_nd {d : TypeDesc} (he : KeyEnc d ek) {es : Array MapEntry} {c : Nat} (hs : Stamped es c) (h : entM es.toList = rowM ek em l) : (l.map (·.1)).Nodup := by
 have h3 := hs.2.2
 rw [entM_keys h] at h3
 have : (l.map (·.1)).map ek = l.map fun p => ek p.1 := by simp [List.map_map, Function.comp_def]
 rw [← this] at h3
 exact (List.pairwise_map.1 h3).imp fun hne e => hne (by rw [e])
theorem Mp.nd {d : TypeDesc} (he : KeyEnc d ek) (h : Mp ek em w b l) : (l.map (·.1)).Nodup := let ⟨_, _, _, h2, h3⟩ := h; keys_nd he h2 h3
theorem getM_no {k : κ} (h : ∀ p ∈ l, p.1 ≠ k) : getM l k = none := by
 unfold getM
 rw [List.find?_eq_none.2 (fun p hp => by simpa using h p hp)]; rfl
theorem getM_at {k : κ} {a : α} {j : Nat} (hn : (l.map (·.1)).Nodup) (h : l[j]? = some (k, a)) : getM l k = some a := by
 unfold getM
 have hm : (k, a) ∈ l := List.mem_of_getElem? h
 cases hf : l.find? fun p => decide (p.1 = k) with
 | none => exact absurd (List.find?_eq_none.1 hf _ hm) (by simp)
 | some q =>
  have hq := List.mem_of_find?_eq_some hf
  have hk := List.find?_some hf
  simp only [decide_eq_true_eq] at hk
  have : q = (k, a) := by
   have hinj := (List.pairwise_map.1 hn)
   obtain ⟨i, hi, ei⟩ := List.getElem_of_mem hq
   obtain ⟨j', hj', ej⟩ := List.getElem_of_mem hm
   rcases Nat.lt_trichotomy i j' with hlt | heq | hlt
   ·have := (List.pairwise_iff_getElem.1 hinj) i j' hi hj' hlt
    rw [ei, ej] at this; exact absurd hk this
   ·subst heq; rw [← ei, ← ej]
   ·have := (List.pairwise_iff_getElem.1 hinj) j' i hj' hi hlt
    rw [ei, ej] at this; exact absurd hk.symm this
  rw [this]; rfl
section
variable {P : Program} {fr : Fr} {d : Option Nat} {t : TypeId} {ps : String} {af : Array Edge} {g : Option (Nat × Bool)} {x y z : Operand} {T K E : TypeId} {D : TypeDesc} {k : κ} {a z0 : α}
end
theorem Bel.block1 {β : Prop} {b : Nat} (w : World) (o : Obj) : Bel β (Only b) w (setBlock w b o) :=
 ⟨rfl, rfl, rfl, by simp [setBlock], fun j _ hj => by simp only [setBlock]; rw [Array.getElem?_setIfInBounds_ne (fun e => hj e.symm)], fun _ => Nat.le_refl _⟩
theorem block1_same {w : World} {b : Nat} {o1 : Obj} (h : w.heap[b]? = some o1) (o : Obj) : (setBlock w b o).heap[b]? = some o := by
 have hl := (Array.getElem?_eq_some_iff.1 h).1
 simp [setBlock, hl]
theorem putM_no {k : κ} {a : α} (h : ∀ p ∈ l, p.1 ≠ k) : putM l k a = l ++ [(k, a)] := by
 unfold putM
 rw [if_neg]
 rw [List.any_eq_true]
 rintro ⟨p, hp, e⟩
 exact h p hp (by simpa using e)
theorem other_key {l : List (κ × α)} {k : κ} {a : α} {i j : Nat} (hn : (l.map (·.1)).Nodup) (h : l[j]? = some (k, a)) {p : κ × α} (hp : l[i]? = some p) (hij : i ≠ j) : p.1 ≠ k := by
 have hinj := List.pairwise_iff_getElem.1 (List.pairwise_map.1 hn)
 obtain ⟨hi, ei⟩ := List.getElem?_eq_some_iff.1 hp
 obtain ⟨hj, ej⟩ := List.getElem?_eq_some_iff.1 h
 intro e
 rcases Nat.lt_or_gt_of_ne hij with hlt | hlt
 ·have := hinj i j hi hj hlt
  rw [ei, ej] at this; exact this e
 ·have := hinj j i hj hi hlt
  rw [ei, ej] at this; exact this e.symm
theorem putM_at {k : κ} {a0 a : α} {j : Nat} (hn : (l.map (·.1)).Nodup) (h : l[j]? = some (k, a0)) : putM l k a = l.set j (k, a) := by
 unfold putM
 rw [if_pos (List.any_eq_true.2 ⟨(k, a0), List.mem_of_getElem? h, by simp⟩)]
 apply List.ext_getElem?
 intro i
 rw [List.getElem?_map, List.getElem?_set]
 by_cases hij : j = i
 ·subst hij
  have hj := (List.getElem?_eq_some_iff.1 h).1
  rw [h]; simp [hj]
 ·rw [if_neg hij]
  cases hp : l[i]? with
  | none => rfl
  | some p =>
   have := other_key hn h hp (fun e => hij e.symm)
   simp [this]
theorem entM_modify {es : Array MapEntry} {j : Nat} {f : MapEntry → MapEntry} {e : MapEntry} (h : es[j]? = some e) : entM (es.modify j f).toList = (entM es.toList).set j ((f e).key, (f e).val) := by
 apply List.ext_getElem?
 intro i
 simp only [entM, List.getElem?_map, Array.getElem?_toList, Array.getElem?_modify, List.getElem?_set, List.length_map, Array.length_toList]
 have hj := (Array.getElem?_eq_some_iff.1 h).1
 by_cases hij : j = i
 ·subst hij
  have he := (Array.getElem?_eq_some_iff.1 h).2
  simp [h, hj, he]
 ·simp [hij]
section
variable {P : Program} {T K E : TypeId} {D : TypeDesc} {k : κ} {a : α}
theorem leftOf_all (es : Array MapEntry) : leftOf es #[] = es := by
 unfold leftOf
 rw [Array.filter_eq_self]
 intro x _; simp
theorem It.start {es : Array MapEntry} {c : Nat} (h1 : w.heap[b]? = some (.map es c)) (h2 : Stamped es c) (h3 : entM es.toList = rowM ek em l) : It ek em (w.alloc (.mapIter (some b) c #[] c)) w.heap.size b l l none := by
 have hl := (Array.getElem?_eq_some_iff.1 h1).1
 exact ⟨es, c, #[], by rw [heap_alloc_old w _ hl]; exact h1, h2, h3, heap_alloc_new w _, by rw [leftOf_all]; exact h3, fun p h => by cases h⟩
end
section
variable {rd : Option Nat} {P : Program} {n : Nat} {Q : Fr → World → Prop} {fr : Fr} {ops : Array Oper} {rest : List Oper} {d : Option Nat} {t : TypeId} {ps : String} {af : Array Edge} {T K E : TypeId} {D : TypeDesc} {k : κ} {a : α} {x y z : Operand}
end
end
end Go.Lx
