/- Several texts in one file. -/
import Derived.Test.YtgmpgfokblehdaaGreatDoorHy
import Derived.Maps.RangeRun
import Derived.WalkSpells
set_option linter.unusedSimpArgs false
set_option linter.unusedVariables false
set_option linter.unnecessarySimpa false
set_option linter.unusedSectionVars false
/- A book of sessions in memory, the program's and the reference's. Nothing of a program stands here. -/
namespace Go.Lx
open Go Go.RowKit
structure SE where
 n : Int
 u : Int
 a : Option Addr
 c : Nat
 x : W64
def encSe (s : SE) : List Value := [.int .i64 s.n, .int .i64 s.u, .slice s.a (wl s.x).length s.c]
theorem Zw : EncOk encSe 3 := ⟨by decide, fun _ => rfl, fun x u hu => by
 simp [encSe] at hu
 rcases hu with rfl | rfl | rfl <;> rfl⟩
def sez : SE := ⟨0, 0, none, 0, 0⟩
def SE.rs (s : SE) : RS := ⟨s.n, s.u, s.x⟩
def SesAt (F : Nat → Prop) (w : World) (l : List SE) : Prop := ∀ s ∈ l, Sl encU 1 F w s.a s.c (wl s.x)
structure BV where
 ap : Option Addr
 cp : Nat
 l : List SE
structure BkAt (F : Nat → Prop) (w : World) (p : Nat) (b : BV) : Prop where
 blk : F p
 at' : At w p 0 [.slice b.ap b.l.length b.cp]
 sl : Sl encSe 3 F w b.ap b.cp b.l
 ws : SesAt F w b.l
def BV.m (b : BV) : List RS := b.l.map SE.rs
section
variable {F F' D : Nat → Prop} {γ : Prop} {w w' : World} {p : Nat} {b : BV} {l : List SE}
theorem SesAt.keep (h : SesAt F w l) (x : Bel γ D w w') (hd : ∀ b, b < w.heap.size → F b → ¬ D b) : SesAt F w' l := fun s hs => (h s hs).keep x hd
theorem SesAt.mono (h : SesAt F w l) (hd : ∀ b, b < w.heap.size → F b → F' b) : SesAt F' w l := fun s hs => (h s hs).mono hd
theorem SesAt.ext (h : SesAt F w l) (x : Ext γ w w') : SesAt F w' l := fun s hs => (h s hs).ext x
theorem SesAt.nil : SesAt F w [] := fun s hs => by cases hs
theorem SesAt.app {r : List SE} (h : SesAt F w l) (k : SesAt F w r) : SesAt F w (l ++ r) := fun s hs => (List.mem_append.1 hs).elim (h s) (k s)
theorem SesAt.cons {s : SE} (h : Sl encU 1 F w s.a s.c (wl s.x)) (k : SesAt F w l) : SesAt F w (s :: l) := fun t ht => by
 rcases List.mem_cons.1 ht with rfl | ht
 ·exact h
 ·exact k t ht
theorem SesAt.sub {r : List SE} (h : SesAt F w l) (hs : ∀ s ∈ r, s ∈ l) : SesAt F w r := fun s h1 => h s (hs s h1)
theorem SesAt.set {s : SE} {i : Nat} (h : SesAt F w l) (hs : Sl encU 1 F w s.a s.c (wl s.x)) : SesAt F w (l.set i s) := fun t ht => by
 rcases List.mem_or_eq_of_mem_set ht with ht | rfl
 ·exact h t ht
 ·exact hs
theorem BkAt.lt (h : BkAt F w p b) : p < w.heap.size := h.at'.lt
theorem BkAt.keep (h : BkAt F w p b) (x : Bel γ D w w') (hd : ∀ b, b < w.heap.size → F b → ¬ D b) : BkAt F w' p b :=
 ⟨h.blk, h.at'.keep x (hd p h.lt h.blk), h.sl.keep x hd, h.ws.keep x hd⟩
theorem BkAt.ext (h : BkAt F w p b) (x : Ext γ w w') : BkAt F w' p b := h.keep x fun _ _ _ => id
theorem BkAt.mono (h : BkAt F w p b) (hd : ∀ b, b < w.heap.size → F b → F' b) : BkAt F' w p b :=
 ⟨hd p h.lt h.blk, h.at', h.sl.mono hd, h.ws.mono hd⟩
theorem BkAt.top (h : BkAt F w p b) : BkAt (Lt w.heap.size) w p b := h.mono fun _ hb _ => hb
end
def BkIs (w : World) (v : Value) (m : List RS) : Prop := ∃ p b, v = .pointer (some ⟨p, 0, none⟩) ∧ BkAt (Lt w.heap.size) w p b ∧ b.m = m
theorem BV.mlen (b : BV) : b.m.length = b.l.length := List.length_map ..
theorem BV.mget (b : BV) (i : Nat) : b.m.getD i rz = (b.l.getD i sez).rs := by
 simp only [BV.m, List.getD, List.getElem?_map]
 cases b.l[i]? <;> rfl
theorem mset {l : List SE} {i : Nat} {s : SE} : (l.set i s).map SE.rs = (l.map SE.rs).set i s.rs := by rw [List.map_set]
theorem Yd (l : List SE) (i : Nat) : (l.map SE.rs).getD i rz = (l.getD i sez).rs := by
 simp only [List.getD, List.getElem?_map]
 cases l[i]? <;> rfl
theorem map_open {l : List SE} {u : Int} : (l.take (gap (l.map SE.rs)) ++ ⟨(gap (l.map SE.rs) : Int) + 1, u, none, 0, 0⟩ :: l.drop (gap (l.map SE.rs))).map SE.rs = openM (l.map SE.rs) u := by
 simp [openM, newS, SE.rs, List.map_take, List.map_drop]
def BkP (w : World) (p : Value) (e : Int) (m : List RS) : Prop := (e = 0 → BkIs w p m) ∧ (e ≠ 0 → p = .pointer none)
theorem BkIs.ext {γ : Prop} {w w' : World} {v : Value} {m : List RS} (h : BkIs w v m) (x : Ext γ w w') : BkIs w' v m :=
 let ⟨p, b, h1, h2, h3⟩ := h
 ⟨p, b, h1, (h2.ext x).top, h3⟩
theorem BkP.ext {γ : Prop} {w w' : World} {p : Value} {e : Int} {m : List RS} (h : BkP w p e m) (x : Ext γ w w') : BkP w' p e m := ⟨fun he => (h.1 he).ext x, h.2⟩
theorem BkAt.is {F : Nat → Prop} {w : World} {p : Nat} {b : BV} (h : BkAt F w p b) : BkIs w (.pointer (some ⟨p, 0, none⟩)) b.m := ⟨p, b, rfl, h.top, rfl⟩
theorem bk_new {w : World} {p : Nat} {T : TypeId} {a : Option Addr} {c k : Nat} {l : List SE} {D : Nat → Prop} {F : Nat → Prop} {e : TypeId} {m : List RS} (hb : Box w p T [.slice a k c]) (hk : k = l.length) (ho : Own encSe 3 e D w (.slice a k c) l) (hs : SesAt F w l) (hm : l.map SE.rs = m) : BkIs w (.pointer (some ⟨p, 0, none⟩)) m := by
 subst hk
 exact ⟨p, ⟨a, c, l⟩, rfl, ⟨hb.lt, hb.at, (ho.slA Zw).top, hs.mono fun _ h _ => h⟩, hm⟩
theorem SesAt.top {F : Nat → Prop} {w : World} {l : List SE} (h : SesAt F w l) : SesAt (Lt w.heap.size) w l := h.mono fun _ hb _ => hb
end Go.Lx
/- Maps with keys of a basic type: what a block holds, in the order of its entries; look-up, store, length, deletion, and a range in whatever order. Nothing of a program stands here. -/
namespace Go.Lx
open Go Go.RowKit Go.MapKept Go.ChangeMaps
structure KeyEnc {κ : Type} (d : TypeDesc) (ek : κ → Value) : Prop where
 key : ∀ k, IsKey d (ek k)
 inj : ∀ a b, ek a = ek b → a = b
theorem str_key : KeyEnc .string str := ⟨fun _ => trivial, fun a b h => by simp [str] at h; exact h⟩
section
variable {κ α : Type} [DecidableEq κ]
def rowM (ek : κ → Value) (em : α → Value) (l : List (κ × α)) : List (Value × Value) := l.map fun p => (ek p.1, em p.2)
def entM (es : List MapEntry) : List (Value × Value) := es.map fun e => (e.key, e.val)
def Mp (ek : κ → Value) (em : α → Value) (w : World) (b : Nat) (l : List (κ × α)) : Prop :=
 ∃ es clock, w.heap[b]? = some (.map es clock) ∧ Stamped es clock ∧ entM es.toList = rowM ek em l
def It (ek : κ → Value) (em : α → Value) (w : World) (r b : Nat) (l left : List (κ × α)) (cur : Option (κ × α)) : Prop :=
 ∃ es clock seen, w.heap[b]? = some (.map es clock) ∧ Stamped es clock ∧ entM es.toList = rowM ek em l ∧ w.heap[r]? = some (.mapIter (some b) clock seen clock) ∧ entM (leftOf es seen).toList = rowM ek em left ∧
  ∀ p, cur = some p → ∃ e ∈ es.toList, (e.key, e.val) = (ek p.1, em p.2) ∧ ∃ s0 : Array Nat, seen = s0.push e.born
def getM (l : List (κ × α)) (k : κ) : Option α := (l.find? fun p => decide (p.1 = k)).map (·.2)
def putM (l : List (κ × α)) (k : κ) (a : α) : List (κ × α) := if l.any (fun p => decide (p.1 = k)) then l.map (fun p => if p.1 = k then (k, a) else p) else l ++ [(k, a)]
variable {ek : κ → Value} {em : α → Value} {w w' : World} {b r : Nat} {l left : List (κ × α)} {cur : Option (κ × α)}
theorem Mp.lt (h : Mp ek em w b l) : b < w.heap.size := let ⟨_, _, h1, _⟩ := h; (Array.getElem?_eq_some_iff.1 h1).1
theorem Mp.keep {γ : Prop} {D : Nat → Prop} (h : Mp ek em w b l) (x : Bel γ D w w') (hd : ¬ D b) : Mp ek em w' b l := by
 have hl := h.lt
 obtain ⟨es, c, h1, h2, h3⟩ := h
 exact ⟨es, c, by rw [x.block b hl hd]; exact h1, h2, h3⟩
theorem Mp.ext {γ : Prop} (h : Mp ek em w b l) (x : Ext γ w w') : Mp ek em w' b l := h.keep x id
theorem It.lt (h : It ek em w r b l left cur) : r < w.heap.size := let ⟨_, _, _, _, _, _, h1, _⟩ := h; (Array.getElem?_eq_some_iff.1 h1).1
theorem It.mp (h : It ek em w r b l left cur) : Mp ek em w b l := let ⟨es, c, _, h1, h2, h3, _⟩ := h; ⟨es, c, h1, h2, h3⟩
theorem It.keep {γ : Prop} {D : Nat → Prop} (h : It ek em w r b l left cur) (x : Bel γ D w w') (hd : ¬ D r) (hd' : ¬ D b) : It ek em w' r b l left cur := by
 have hl := h.lt
 have hl' := h.mp.lt
 obtain ⟨es, c, s, h1, h2, h3, h4, h5⟩ := h
 exact ⟨es, c, s, by rw [x.block b hl' hd']; exact h1, h2, h3, by rw [x.block r hl hd]; exact h4, h5⟩
theorem It.ext {γ : Prop} (h : It ek em w r b l left cur) (x : Ext γ w w') : It ek em w' r b l left cur := h.keep x id id
theorem entM_keys {es : List MapEntry} (h : entM es = rowM ek em l) : es.map (·.key) = l.map fun p => ek p.1 := by
 have := congrArg (List.map Prod.fst) h
 simpa [entM, rowM, List.map_map, Function.comp_def] using this
theorem keys_is {d : TypeDesc} (he : KeyEnc d ek) {es : List MapEntry} (h : entM es = rowM ek em l) : ∀ x ∈ es, IsKey d x.key := by
 intro x hx
 have : x.key ∈ es.map (·.key) := List.mem_map.2 ⟨x, hx, rfl⟩
 rw [entM_keys h] at this
 obtain ⟨p, _, e⟩ := List.mem_map.1 this
 rw [← e]; exact he.key p.1
theorem ent_get {es : List MapEntry} (h : entM es = rowM ek em l) {j : Nat} {e : MapEntry} (hj : es[j]? = some e) : ∃ p, l[j]? = some p ∧ e.key = ek p.1 ∧ e.val = em p.2 := by
 have h1 : (entM es)[j]? = some (e.key, e.val) := by simp [entM, hj]
 rw [h] at h1
 simp only [rowM, List.getElem?_map] at h1
 cases hp : l[j]? with
 | none => simp [hp] at h1
 | some p =>
  simp [hp] at h1
  exact ⟨p, rfl, h1.1.symm, h1.2.symm⟩
theorem keys_nd {d : TypeDesc} (he : KeyEnc d ek) {es : Array MapEntry} {c : Nat} (hs : Stamped es c) (h : entM es.toList = rowM ek em l) : (l.map (·.1)).Nodup := by
 have h3 := hs.2.2
 rw [entM_keys h] at h3
 have : (l.map (·.1)).map ek = l.map fun p => ek p.1 := by simp [List.map_map, Function.comp_def]
 rw [← this] at h3
 exact (List.pairwise_map.1 h3).imp fun hne e => hne (by rw [e])
theorem Mp.nd {d : TypeDesc} (he : KeyEnc d ek) (h : Mp ek em w b l) : (l.map (·.1)).Nodup := let ⟨_, _, _, h2, h3⟩ := h; keys_nd he h2 h3
theorem find_cases {d : TypeDesc} (he : KeyEnc d ek) {es : List MapEntry} (h : entM es = rowM ek em l) (k : κ) :
  (Instr.findNow d (ek k) es 0 = some none ∧ (∀ p ∈ l, p.1 ≠ k) ∧ ∀ x ∈ es, x.key ≠ ek k) ∨ ∃ j e a, Instr.findNow d (ek k) es 0 = some (some (j, e.val)) ∧ es[j]? = some e ∧ e.key = ek k ∧ e.val = em a ∧ l[j]? = some (k, a) := by
 rcases findNow_spec (he.key k) es 0 (keys_is he h) with ⟨h1, h2⟩ | ⟨j, e, h1, h2, h3⟩
 ·refine .inl ⟨h1, fun p hp e => ?_, h2⟩
  have : ek p.1 ∈ l.map fun p => ek p.1 := List.mem_map.2 ⟨p, hp, rfl⟩
  rw [← entM_keys h] at this
  obtain ⟨x, hx, ex⟩ := List.mem_map.1 this
  exact h2 x hx (by rw [ex, e])
 ·obtain ⟨p, hp, e1, e2⟩ := ent_get h h2
  have ek' : p.1 = k := he.inj _ _ (by rw [← e1, h3])
  refine .inr ⟨j, e, p.2, by simpa using h1, h2, h3, e2, ?_⟩
  rw [hp, ← ek']
theorem getM_no {k : κ} (h : ∀ p ∈ l, p.1 ≠ k) : getM l k = none := by
 unfold getM
 rw [List.find?_eq_none.2 (fun p hp => by simpa using h p hp)]; rfl
theorem getM_at {k : κ} {a : α} {j : Nat} (hn : (l.map (·.1)).Nodup) (h : l[j]? = some (k, a)) : getM l k = some a := by
 unfold getM
 have hm : (k, a) ∈ l := List.mem_of_getElem? h
 cases hf : l.find? fun p => decide (p.1 = k) with
 | none => exact absurd (List.find?_eq_none.1 hf _ hm) (by simp)
 | some q =>
  have hq := List.mem_of_find?_eq_some hf
  have hk := List.find?_some hf
  simp only [decide_eq_true_eq] at hk
  have : q = (k, a) := by
   have hinj := (List.pairwise_map.1 hn)
   obtain ⟨i, hi, ei⟩ := List.getElem_of_mem hq
   obtain ⟨j', hj', ej⟩ := List.getElem_of_mem hm
   rcases Nat.lt_trichotomy i j' with hlt | heq | hlt
   ·have := (List.pairwise_iff_getElem.1 hinj) i j' hi hj' hlt
    rw [ei, ej] at this; exact absurd hk this
   ·subst heq; rw [← ei, ← ej]
   ·have := (List.pairwise_iff_getElem.1 hinj) j' i hj' hi hlt
    rw [ei, ej] at this; exact absurd hk.symm this
  rw [this]; rfl
section
variable {P : Program} {fr : Fr} {d : Option Nat} {t : TypeId} {ps : String} {af : Array Edge} {g : Option (Nat × Bool)} {x y z : Operand} {T K E : TypeId} {D : TypeDesc} {k : κ} {a z0 : α}
theorem run_lookup {ok : Bool} (hT : P.underlying T = some (.map K E)) (hK : P.underlying K = some D) (he : KeyEnc D ek) (hz : ∀ w, (zeroValue E).run P w = .ok (em z0) w) (h : Mp ek em w b l) :
  (Instr.lookup T (.map (some b)) (ek k) ok).run P w = .ok (if ok then .tuple #[em ((getM l k).getD z0), .bool (getM l k).isSome] else em ((getM l k).getD z0)) w := by
 obtain ⟨es, c, h1, h2, h3⟩ := h
 have hck : ∀ e, (Instr.checkKey e 10000 K (ek k)).run P w = .ok () w := fun e => run_checkKey hK (he.key k) e 9999
 rcases find_cases he h3 k with ⟨f1, f2, _⟩ | ⟨j, e, a, f1, f2, f3, f4, f5⟩
 ·rw [getM_no f2]
  cases ok <;> simp [Instr.lookup, run_underlying hT, MapKept.run_getObj_map h1, hck, run_findKey hK f1, hz]
 ·rw [getM_at (keys_nd he h2 h3) f5]
  cases ok <;> simp [Instr.lookup, run_underlying hT, MapKept.run_getObj_map h1, hck, run_findKey hK f1, ← f4]
theorem Yr {ok : Bool} (hT : P.underlying T = some (.map K E)) (hK : P.underlying K = some D) (he : KeyEnc D ek) (hz : ∀ w, (zeroValue E).run P w = .ok (em z0) w) (h : Mp ek em w b l) (hx : ev fr x = .map (some b)) (hy : ev fr y = ek k) :
  xop P fr w ⟨d, .lookup T x y ok, t, ps, af, g⟩ = .ok (.value (if ok then .tuple #[em ((getM l k).getD z0), .bool (getM l k).isSome] else em ((getM l k).getD z0))) w := by
 have := run_lookup (ok := ok) (k := k) hT hK he hz h
 simp [xop, execOp, hx, hy, this]
theorem o_mlen {U R : TypeId} (hT : P.underlying T = some (.map K E)) (h : Mp ek em w b l) (hx : ev fr x = .map (some b)) :
  xop P fr w ⟨d, .call { callee := .builtin .len, args := #[x], argTypes := #[T] }, t, ps, af, g⟩ = .ok (.value (.int .i64 (l.length : Int))) w := by
 obtain ⟨es, c, h1, h2, h3⟩ := h
 have e : es.size = l.length := by
  have := congrArg List.length h3
  simpa [entM, rowM] using this
 have hl : (Builtin.len_ #[T] t #[.map (some b)]).run P w = .ok (goInt l.length) w := by simp [Builtin.len_, run_underlying hT, MapKept.run_getObj_map h1, e]
 simp [xop, execOp, resolve, invoke, builtin, hx, hl, goInt]
end
theorem Bel.block1 {β : Prop} {b : Nat} (w : World) (o : Obj) : Bel β (Only b) w (setBlock w b o) :=
 ⟨rfl, rfl, rfl, by simp [setBlock], fun j _ hj => by simp only [setBlock]; rw [Array.getElem?_setIfInBounds_ne (fun e => hj e.symm)], fun _ => Nat.le_refl _⟩
theorem Ys {w : World} {b : Nat} {o1 : Obj} (h : w.heap[b]? = some o1) (o : Obj) : (setBlock w b o).heap[b]? = some o := by
 have hl := (Array.getElem?_eq_some_iff.1 h).1
 simp [setBlock, hl]
theorem JU {β γ : Type} (f : β → γ) : ∀ (l : List β) (j : Nat), (l.map f).eraseIdx j = (l.eraseIdx j).map f
 | [], _ => by simp
 | _ :: _, 0 => by simp
 | x :: r, j + 1 => by simp [JU f r j]
theorem putM_no {k : κ} {a : α} (h : ∀ p ∈ l, p.1 ≠ k) : putM l k a = l ++ [(k, a)] := by
 unfold putM
 rw [if_neg]
 rw [List.any_eq_true]
 rintro ⟨p, hp, e⟩
 exact h p hp (by simpa using e)
theorem other_key {l : List (κ × α)} {k : κ} {a : α} {i j : Nat} (hn : (l.map (·.1)).Nodup) (h : l[j]? = some (k, a)) {p : κ × α} (hp : l[i]? = some p) (hij : i ≠ j) : p.1 ≠ k := by
 have hinj := List.pairwise_iff_getElem.1 (List.pairwise_map.1 hn)
 obtain ⟨hi, ei⟩ := List.getElem?_eq_some_iff.1 hp
 obtain ⟨hj, ej⟩ := List.getElem?_eq_some_iff.1 h
 intro e
 rcases Nat.lt_or_gt_of_ne hij with hlt | hlt
 ·have := hinj i j hi hj hlt
  rw [ei, ej] at this; exact this e
 ·have := hinj j i hj hi hlt
  rw [ei, ej] at this; exact this e.symm
theorem putM_at {k : κ} {a0 a : α} {j : Nat} (hn : (l.map (·.1)).Nodup) (h : l[j]? = some (k, a0)) : putM l k a = l.set j (k, a) := by
 unfold putM
 rw [if_pos (List.any_eq_true.2 ⟨(k, a0), List.mem_of_getElem? h, by simp⟩)]
 apply List.ext_getElem?
 intro i
 rw [List.getElem?_map, List.getElem?_set]
 by_cases hij : j = i
 ·subst hij
  have hj := (List.getElem?_eq_some_iff.1 h).1
  rw [h]; simp [hj]
 ·rw [if_neg hij]
  cases hp : l[i]? with
  | none => rfl
  | some p =>
   have := other_key hn h hp (fun e => hij e.symm)
   simp [this]
theorem entM_modify {es : Array MapEntry} {j : Nat} {f : MapEntry → MapEntry} {e : MapEntry} (h : es[j]? = some e) : entM (es.modify j f).toList = (entM es.toList).set j ((f e).key, (f e).val) := by
 apply List.ext_getElem?
 intro i
 simp only [entM, List.getElem?_map, Array.getElem?_toList, Array.getElem?_modify, List.getElem?_set, List.length_map, Array.length_toList]
 have hj := (Array.getElem?_eq_some_iff.1 h).1
 by_cases hij : j = i
 ·subst hij
  have he := (Array.getElem?_eq_some_iff.1 h).2
  simp [h, hj, he]
 ·simp [hij]
section
variable {P : Program} {T K E : TypeId} {D : TypeDesc} {k : κ} {a : α}
theorem run_mput (hT : P.underlying T = some (.map K E)) (hK : P.underlying K = some D) (he : KeyEnc D ek) (h : Mp ek em w b l) :
  ∃ w', (Instr.mapUpdate T (.map (some b)) (ek k) (em a)).run P w = .ok () w' ∧ Bel True (Only b) w w' ∧ Mp ek em w' b (putM l k a) := by
 obtain ⟨es, c, h1, h2, h3⟩ := h
 have hck : (Instr.checkKey false 10000 K (ek k)).run P w = .ok () w := run_checkKey hK (he.key k) false 9999
 rcases find_cases he h3 k with ⟨f1, f2, f3⟩ | ⟨j, e, a0, f1, f2, f3, f4, f5⟩
 ·refine ⟨setBlock w b (.map (es.push { key := ek k, val := em a, born := c }) (c + 1)), ?_, Bel.block1 _ _, _, _, Ys h1 _, stamped_push h2 f3, ?_⟩
  ·simp [Instr.mapUpdate, run_underlying hT, MapKept.run_getObj_map h1, hck, run_findKey hK f1, run_setObj_map _ h1, setBlock]
  ·rw [putM_no f2]
   simp only [entM, rowM, Array.toList_push, List.map_append, List.map_cons, List.map_nil] at h3 ⊢
   rw [h3]
 ·have f2' : es[j]? = some e := by simpa using f2
  refine ⟨setBlock w b (.map (es.modify j fun e => { e with key := ek k, val := em a }) c), ?_, Bel.block1 _ _, _, _, Ys h1 _, stamped_modify h2 _ _ (fun _ _ => rfl) (fun x _ hx => ?_), ?_⟩
  ·have hk : (Instr.keyThatStays (ek k) (ek k)).run P w = .ok (ek k) w := MapKept.run_keyThatStays (he.key k)
   simp [Instr.mapUpdate, run_underlying hT, MapKept.run_getObj_map h1, hck, run_findKey hK f1, f2', f3, hk, run_setObj_map _ h1, setBlock]
  ·rw [f2'] at hx
   obtain rfl : e = x := by simpa using hx
   exact f3.symm
  ·rw [entM_modify f2', h3, putM_at (keys_nd he h2 h3) f5]
   simp only [rowM, List.map_set]
theorem leftOf_all (es : Array MapEntry) : leftOf es #[] = es := by
 unfold leftOf
 rw [Array.filter_eq_self]
 intro x _; simp
theorem filter_born : ∀ {L : List MapEntry} {j : Nat} {e : MapEntry}, (L.map (·.born)).Nodup → L[j]? = some e → (L.filter fun x => !(x.born == e.born)) = L.eraseIdx j
 | [], _, _, _, h => by simp at h
 | x :: r, 0, e, hn, h => by
  simp at h
  subst h
  simp only [List.map_cons, List.nodup_cons] at hn
  have : (r.filter fun y => !(y.born == x.born)) = r := by
   rw [List.filter_eq_self]
   intro y hy
   have : y.born ≠ x.born := fun q => hn.1 (List.mem_map.2 ⟨y, hy, q⟩)
   simpa using this
  simp only [List.filter_cons, beq_self_eq_true, Bool.not_true, Bool.false_eq_true, if_false, List.eraseIdx_cons_zero]
  exact this
 | x :: r, j + 1, e, hn, h => by
  simp only [List.map_cons, List.nodup_cons] at hn
  have hr : r[j]? = some e := by simpa using h
  have hne : x.born ≠ e.born := fun q => hn.1 (List.mem_map.2 ⟨e, List.mem_of_getElem? hr, q.symm⟩)
  have := filter_born hn.2 hr
  simp [hne, this]
theorem leftOf_push (es : Array MapEntry) (seen : Array Nat) (n : Nat) : (leftOf es (seen.push n)).toList = (leftOf es seen).toList.filter fun x => !(x.born == n) := by
 unfold leftOf
 simp only [Array.toList_filter, List.filter_filter]
 refine List.filter_congr fun x _ => ?_
 have : (seen.push n).contains x.born = (seen.contains x.born || x.born == n) := by
  rw [Bool.eq_iff_iff]; simp
 rw [this, Bool.not_or, Bool.and_comm]
theorem perm_erase {β : Type} : ∀ {l : List β} {j : Nat} {p : β}, l[j]? = some p → l.Perm (p :: l.eraseIdx j)
 | [], _, _, h => by simp at h
 | x :: r, 0, p, h => by simp at h; subst h; simp
 | x :: r, j + 1, p, h => by
  have := perm_erase (l := r) (j := j) (p := p) (by simpa using h)
  exact (this.cons x).trans (List.Perm.swap p x _)
theorem It.start {es : Array MapEntry} {c : Nat} (h1 : w.heap[b]? = some (.map es c)) (h2 : Stamped es c) (h3 : entM es.toList = rowM ek em l) : It ek em (w.alloc (.mapIter (some b) c #[] c)) w.heap.size b l l none := by
 have hl := (Array.getElem?_eq_some_iff.1 h1).1
 exact ⟨es, c, #[], by rw [heap_alloc_old w _ hl]; exact h1, h2, h3, heap_alloc_new w _, by rw [leftOf_all]; exact h3, fun p h => by cases h⟩
theorem run_step {ty : TypeId} (h : It ek em w r b l left cur) (hrb : r ≠ b) :
  (left = [] ∧ (Instr.next (.pointer (some ⟨r, 0, none⟩)) false ty).run P w = .ok (.tuple #[.bool false]) w) ∨
  ∃ p left' w', left.Perm (p :: left') ∧ (Instr.next (.pointer (some ⟨r, 0, none⟩)) false ty).run P w = .ok (.tuple #[.bool true, ek p.1, em p.2]) w' ∧ Bel True (Only r) w w' ∧ It ek em w' r b l left' (some p) := by
 obtain ⟨es, c, seen, h1, h2, h3, h4, h5, h6⟩ := h
 rcases run_next_at (P := P) w ty r b c c seen es c h4 h1 h2.1 (Nat.le_refl _) with ⟨g1, g2⟩ | ⟨e, g1, w1, g2, g3⟩
 ·refine .inl ⟨?_, g2⟩
  have : (leftOf es seen).toList.length = left.length := by simpa [entM, rowM] using congrArg List.length h5
  rw [Array.length_toList, g1] at this
  exact List.eq_nil_of_length_eq_zero this.symm
 ·right
  obtain ⟨j, hj⟩ := List.getElem?_of_mem g1
  obtain ⟨p, hp, e1, e2⟩ := ent_get h5 hj
  have hsub : (leftOf es seen).toList.Sublist es.toList := by
   unfold leftOf; rw [Array.toList_filter]; exact List.filter_sublist
  have hnd : ((leftOf es seen).toList.map (·.born)).Nodup := (hsub.map _).nodup h2.2.1
  refine ⟨p, left.eraseIdx j, setBlock w1 r (.mapIter (some b) c (seen.push e.born) c), ?_, by rw [g3, e1, e2], ?_, ?_⟩
  ·exact perm_erase hp
  ·have x1 : Bel True (Only r) w w1 := by
    rcases g2 with rfl | rfl
    ·exact Bel.refl _ _
    ·exact (Ext.drew w).mono fun _ _ h => h.elim
   exact x1.same (Bel.block1 (β := True) w1 _)
  ·have hb1 : w1.heap = w.heap := by rcases g2 with rfl | rfl <;> rfl
   refine ⟨es, c, seen.push e.born, ?_, h2, h3, ?_, ?_, ?_⟩
   ·have := (Bel.block1 (β := True) (b := r) w1 (.mapIter (some b) c (seen.push e.born) c)).block b (by rw [hb1]; exact (Array.getElem?_eq_some_iff.1 h1).1) (fun q => hrb q.symm)
    rw [this, hb1]; exact h1
   ·exact Ys (by rw [hb1]; exact h4) _
   ·rw [leftOf_push, filter_born hnd hj]
    unfold entM rowM at h5 ⊢
    rw [← JU, h5, JU]
   ·rintro q hq
    obtain rfl : p = q := by simpa using hq
    exact ⟨e, hsub.subset g1, by rw [e1, e2], seen, rfl⟩
theorem run_cur {p : κ × α} (h : It ek em w r b l left (some p)) : (Instr.entry (.pointer (some ⟨r, 0, none⟩))).run P w = .ok (.tuple #[ek p.1, em p.2]) w := by
 obtain ⟨es, c, seen, h1, h2, h3, h4, h5, h6⟩ := h
 obtain ⟨e, he, h7, s0, h8⟩ := h6 p rfl
 subst h8
 have := run_entry_at (P := P) w r b c s0 es c e h4 h1 he h2.2.1
 rw [this]
 simp only [Prod.mk.injEq] at h7
 rw [h7.1, h7.2]
end
section
variable {rd : Option Nat} {P : Program} {n : Nat} {Q : Fr → World → Prop} {fr : Fr} {ops : Array Oper} {rest : List Oper} {d : Option Nat} {t : TypeId} {ps : String} {af : Array Edge} {T K E : TypeId} {D : TypeDesc} {k : κ} {a : α} {x y z : Operand}
theorem Rg_mput (hd : dstOk n d = true) (hT : P.underlying T = some (.map K E)) (hK : P.underlying K = some D) (he : KeyEnc D ek) (hx : ev fr x = .map (some b)) (hy : ev fr y = ek k) (hz : ev fr z = em a) (h : Mp ek em w b l)
  (hk : ∀ w', Bel True (Only b) w w' → Mp ek em w' b (putM l k a) → Rg rd P n ops rest Q (fr.put d undef) w') : Rg rd P n ops (⟨d, .mapUpdate T x y z, t, ps, af, none⟩ :: rest) Q fr w := by
 obtain ⟨w', h1, h2, h3⟩ := run_mput (P := P) (k := k) (a := a) hT hK he h
 refine Rg_skip hd (w' := w') ?_ (hk w' h2 h3)
 simp [execOp, hx, hy, hz, h1]
theorem Rg_mmk (ek : κ → Value) (em : α → Value) (hd : dstOk n d = true)
  (hk : ∀ b w', Ext True w w' → w.heap.size ≤ b → b < w'.heap.size → Mp ek em w' b [] → Rg rd P n ops rest Q (fr.put d (.map (some b))) w') : Rg rd P n ops (⟨d, .makeMap T none, t, ps, af, none⟩ :: rest) Q fr w := by
 refine ZX hd (v := .map (some w.heap.size)) (w' := w.alloc (.map #[] 0)) ?_ (hk _ _ (Ext.alloc _ _) (Nat.le_refl _) (by simp) ⟨#[], 0, heap_alloc_new w _, stamped_empty 0, rfl⟩)
 simp [execOp, Instr.makeMap, newObj, Sem.run]
theorem Rg_rng (hd : dstOk n d = true) (hT : P.underlying T = some (.map K E)) (hx : ev fr x = .map (some b)) (h : Mp ek em w b l)
  (hk : ∀ r w', Ext True w w' → w.heap.size ≤ r → r < w'.heap.size → It ek em w' r b l l none → Rg rd P n ops rest Q (fr.put d (.pointer (some ⟨r, 0, none⟩))) w') : Rg rd P n ops (⟨d, .range T x, t, ps, af, none⟩ :: rest) Q fr w := by
 obtain ⟨es, c, h1, h2, h3⟩ := h
 refine ZX hd (v := .pointer (some ⟨w.heap.size, 0, none⟩)) (w' := w.alloc (.mapIter (some b) c #[] c)) ?_ (hk _ _ (Ext.alloc _ _) (Nat.le_refl _) (by simp) (It.start h1 h2 h3))
 have := run_range_map (P := P) w T K E b es c hT h1
 simp [execOp, hx, this]
theorem Rg_next (hd : dstOk n d = true) (hx : ev fr x = .pointer (some ⟨r, 0, none⟩)) (h : It ek em w r b l left cur) (hrb : r ≠ b)
  (h0 : left = [] → Rg rd P n ops rest Q (fr.put d (.tuple #[.bool false])) w)
  (hk : ∀ p left' w', left.Perm (p :: left') → Bel True (Only r) w w' → It ek em w' r b l left' (some p) → Rg rd P n ops rest Q (fr.put d (.tuple #[.bool true, ek p.1, em p.2])) w') : Rg rd P n ops (⟨d, .next x false, t, ps, af, none⟩ :: rest) Q fr w := by
 rcases run_step (P := P) (ty := t) h hrb with ⟨g1, g2⟩ | ⟨p, left', w', g1, g2, g3, g4⟩
 ·refine ZX hd (v := .tuple #[.bool false]) (w' := w) ?_ (h0 g1)
  simp [execOp, hx, g2]
 ·refine ZX hd (v := .tuple #[.bool true, ek p.1, em p.2]) (w' := w') ?_ (hk p left' w' g1 g3 g4)
  simp [execOp, hx, g2]
theorem o_entry {g : Option (Nat × Bool)} {p : κ × α} (h : It ek em w r b l left (some p)) (hx : ev fr x = .pointer (some ⟨r, 0, none⟩)) : xop P fr w ⟨d, .entry x, t, ps, af, g⟩ = .ok (.value (.tuple #[ek p.1, em p.2])) w := by
 have := run_cur (P := P) h
 simp [xop, execOp, hx, this]
theorem o_meqnil {g : Option (Nat × Bool)} {U : TypeId} (hT : P.underlying T = some (.map K E)) (hx : ev fr x = .map (some b)) (hy : ev fr y = .map none) : xop P fr w ⟨d, .binOp .eql T x y U, t, ps, af, g⟩ = .ok (.value (.bool false)) w := by
 have := run_eql_map_nil (P := P) w T K E (some b) hT
 simp only [xop, execOp, hx, hy, eqGuard]
 simp [this]
theorem o_mkif {g : Option (Nat × Bool)} {v : Value} {U : TypeDesc} (hT : P.underlying T = some U) (hU : (match U with | .interface _ => true | _ => false) = false) (hx : ev fr x = v) : xop P fr w ⟨d, .makeInterface T x, t, ps, af, g⟩ = .ok (.value (.iface T v)) w := by
 cases U <;> simp_all [xop, execOp, Instr.makeInterface, run_underlying hT]
end
end
end Go.Lx
/- maps.clone of a map of numbers, at this translation. -/
namespace Go.Proofs.YtgmpgfokblehdaaGreatDoor
open Go Go.Lx
set_option maxRecDepth 10000
theorem x_cloneI (b : Nat) (es : Array MapEntry) (c : Nat) (w : World) (hb : w.heap[b]? = some (.map es c)) : (callFunc 93 #[.iface 99 (.map (some b))]).run Tryz.prog w = .ok (.value (.iface 99 (.map (some w.heap.size)))) (w.alloc (.map es c)) := by
 rw [run_callFunc_extern Tryz.func93 (by kernel_rfl) (by kernel_rfl) (by kernel_rfl) (e := Extern.MapsClone.clone) (by kernel_rfl)]
 obtain ⟨f, e1, e2⟩ : ∃ f, Extern.MapsClone.clone #[.iface 99 (.map (some b))] = (getObj b >>= f) ∧ ∀ es c, f (.map es c) = (newObj (.map es c) >>= fun n => pure (.iface 99 (.map (some n)))) := ⟨_, rfl, fun _ _ => rfl⟩
 rw [e1]
 simp [MapKept.run_getObj_map hb, e2, newObj, Sem.run]
end Go.Proofs.YtgmpgfokblehdaaGreatDoor
/- Books of memberships: what is found, what is put in, who is in on a day. Nothing of a program stands here. -/
namespace Go.Lx
open Go Go.RowKit
structure Men where
 u : Int
 r : Int
 t : Int
deriving DecidableEq
def mez : Men := ⟨0, 0, 0⟩
def encMe (x : Men) : List Value := [.int .i64 x.u, .int .i64 x.r, .int .i64 x.t]
theorem Zq : EncOk encMe 3 := ⟨by decide, fun _ => rfl, fun x u hu => by
 simp [encMe] at hu
 rcases hu with rfl | rfl | rfl <;> rfl⟩
def cmpN (x y : Men) : Int := if x.u ≠ y.u then x.u - y.u else x.r - y.r
def LtN (x y : Men) : Prop := x.u < y.u ∨ x.u = y.u ∧ x.r < y.r
theorem cmpN_neg {x y : Men} : cmpN x y < 0 ↔ LtN x y := by
 unfold cmpN LtN
 by_cases h : x.u = y.u
 ·rw [if_neg (by simpa using h)]; omega
 ·rw [if_pos h]; omega
theorem LtN.trans {x y z : Men} (h : LtN x y) (k : LtN y z) : LtN x z := by unfold LtN at *; omega
def Men.rg (x : Men) : Prop := (0 ≤ x.u ∧ x.u ≤ 100000) ∧ (0 ≤ x.r ∧ x.r < 64) ∧ (0 ≤ x.t ∧ x.t ≤ 100000)
structure OkN (L : List Men) : Prop where
 len : L.length ≤ 20000
 rg : ∀ x ∈ L, x.rg
 srt : L.Pairwise LtN
def fdN (L : List Men) (y : Men) : Nat := (L.takeWhile fun x => decide (cmpN x y < 0)).length
def fnN (L : List Men) (y : Men) : Bool := decide (fdN L y < L.length) && (cmpN (L.getD (fdN L y) mez) y == 0)
structure BsN (L : List Men) (y : Men) (i j : Nat) : Prop where
 le : i ≤ j
 len : j ≤ L.length
 lo : ∀ k, k < i → cmpN (L.getD k mez) y < 0
 hi : ∀ k, j ≤ k → k < L.length → 0 ≤ cmpN (L.getD k mez) y
theorem BsN.start (L : List Men) (y : Men) : BsN L y 0 L.length := ⟨Nat.zero_le _, Nat.le_refl _, fun k h => absurd h (Nat.not_lt_zero _), fun k h1 h2 => absurd h2 (by omega)⟩
theorem srtN_get {L : List Men} (h : L.Pairwise LtN) {i j : Nat} (hij : i < j) (hj : j < L.length) : LtN (L.getD i mez) (L.getD j mez) := by
 have := List.pairwise_iff_getElem.1 h i j (by omega) hj hij
 simpa [List.getD, hj, show i < L.length by omega] using this
theorem BsN.loS {L : List Men} {y : Men} {i j h : Nat} (hm : L.Pairwise LtN) (b : BsN L y i j) (h1 : i ≤ h) (h2 : h < j) (hc : cmpN (L.getD h mez) y < 0) : BsN L y (h + 1) j := by
 refine ⟨by omega, b.len, fun k hk => ?_, b.hi⟩
 rcases Nat.lt_or_ge k h with q | q
 ·exact cmpN_neg.2 ((srtN_get hm q (by have := b.len; omega)).trans (cmpN_neg.1 hc))
 ·obtain rfl : k = h := by omega
  exact hc
theorem BsN.hiS {L : List Men} {y : Men} {i j h : Nat} (hm : L.Pairwise LtN) (b : BsN L y i j) (h1 : i ≤ h) (h2 : h < j) (hc : ¬ cmpN (L.getD h mez) y < 0) : BsN L y i h := by
 refine ⟨h1, by have := b.len; omega, b.lo, fun k hk hl => ?_⟩
 rcases Nat.lt_or_ge h k with q | q
 ·exact Int.not_lt.1 fun hn => hc (cmpN_neg.2 ((srtN_get hm q hl).trans (cmpN_neg.1 hn)))
 ·obtain rfl : k = h := by omega
  omega
theorem tw_len {α : Type} (p : α → Bool) (z : α) : ∀ (L : List α) (i : Nat), i ≤ L.length → (∀ k, k < i → p (L.getD k z) = true) → (i < L.length → p (L.getD i z) = false) → (L.takeWhile p).length = i
 | [], i, h, _, _ => by simp at h; simp [h]
 | x :: L, 0, _, _, h2 => by
  have := h2 (by simp)
  simp at this
  simp [List.takeWhile_cons, this]
 | x :: L, i + 1, h, h1, h2 => by
  have h0 := h1 0 (by omega)
  simp at h0
  rw [List.takeWhile_cons, if_pos h0, List.length_cons, tw_len p z L i (by simpa using h) (fun k hk => by simpa using h1 (k + 1) (by omega)) (fun hl => by simpa using h2 (by simpa using hl))]
theorem BsN.fin {L : List Men} {y : Men} {i : Nat} (b : BsN L y i i) : fdN L y = i :=
 tw_len _ mez L i b.len (fun k hk => decide_eq_true (b.lo k hk)) (fun hl => decide_eq_false (by have := b.hi i (Nat.le_refl _) hl; omega))
theorem BsN.fn {L : List Men} {y : Men} {i : Nat} (b : BsN L y i i) : fnN L y = (decide ((i : Int) < (L.length : Int)) && (cmpN (L.getD i mez) y == 0)) := by
 unfold fnN
 rw [b.fin]
 congr 1
 simp
def insN (L : List Men) (x : Men) : List Men := L.take (fdN L x) ++ [x] ++ L.drop (fdN L x)
def MbIs (w : World) (v : Value) (L : List Men) : Prop := ∃ p a c, v = .pointer (some ⟨p, 0, none⟩) ∧ At w p 0 [.slice a L.length c] ∧ Sl encMe 3 (Lt w.heap.size) w a c L
theorem MbIs.ext {γ : Prop} {w w' : World} {v : Value} {L : List Men} (h : MbIs w v L) (x : Ext γ w w') : MbIs w' v L :=
 let ⟨p, a, c, h1, h2, h3⟩ := h
 ⟨p, a, c, h1, h2.ext x, (h3.ext x).mono fun g hg _ => hg⟩
theorem mb_new {e : TypeId} {w : World} {b : Nat} {L : List Men} {a : Option Addr} {n c : Nat} {T : TypeId} {D : Nat → Prop} (hb : Box w b T [.slice a n c]) (hn : n = L.length) (h : Own encMe 3 e D w (.slice a n c) L) : MbIs w (.pointer (some ⟨b, 0, none⟩)) L := by
 subst hn
 exact ⟨b, a, c, rfl, hb.at, (h.slA Zq).mono fun g hg _ => hg⟩
def actN (x : Men) (d : Int) : Bool := decide (0 ≤ d) && decide (d ≤ 30000) && decide (d ≤ x.t)
def onStep (u d : Int) (s : W64) (x : Men) : W64 := if x.u = u ∧ actN x d = true then s ||| oneW x.r.toNat else s
def onW (L : List Men) (u d : Int) : W64 := L.foldl (onStep u d) 0
theorem onW_succ {L : List Men} {u d : Int} {k : Nat} (h : k < L.length) : onW (L.take (k + 1)) u d = onStep u d (onW (L.take k) u d) (L.getD k mez) := by
 unfold onW
 rw [List.take_succ_eq_append_getElem h, List.foldl_append]
 simp [List.getD, h]
theorem onW_yes {L : List Men} {u d : Int} {k : Nat} (h : k < L.length) (hc : (L.getD k mez).u = u ∧ actN (L.getD k mez) d = true) : onW (L.take (k + 1)) u d = onW (L.take k) u d ||| oneW (L.getD k mez).r.toNat := by
 rw [onW_succ h, onStep, if_pos hc]
theorem onW_no {L : List Men} {u d : Int} {k : Nat} (h : k < L.length) (hc : ¬ ((L.getD k mez).u = u ∧ actN (L.getD k mez) d = true)) : onW (L.take (k + 1)) u d = onW (L.take k) u d := by
 rw [onW_succ h, onStep, if_neg hc]
theorem fdN_le (L : List Men) (y : Men) : fdN L y ≤ L.length := (List.takeWhile_sublist _).length_le
theorem fnN_lt {L : List Men} {y : Men} (h : fnN L y = true) : fdN L y < L.length := by
 unfold fnN at h
 rw [Bool.and_eq_true] at h
 exact of_decide_eq_true h.1
theorem half_natN {n : Nat} (h : n < 18446744073709551616) : (BitVec.ofNat 64 n >>> 1).toNat = n / 2 := by
 rw [BitVec.toNat_ushiftRight, BitVec.toNat_ofNat, Nat.mod_eq_of_lt (by omega), Nat.shiftRight_eq_div_pow]
def NtIs (w : World) (v : Value) (n : Nat) : Prop := ∃ p a c m, v = .pointer (some ⟨p, 0, none⟩) ∧ At w p 0 [.slice a n c, m] ∧ n ≤ c
theorem NtIs.ext {γ : Prop} {w w' : World} {v : Value} {n : Nat} (h : NtIs w v n) (x : Ext γ w w') : NtIs w' v n :=
 let ⟨p, a, c, m, h1, h2, h3⟩ := h
 ⟨p, a, c, m, h1, h2.ext x, h3⟩
def MbF (F : Nat → Prop) (w : World) (v : Value) (L : List Men) : Prop := ∃ p a c, v = .pointer (some ⟨p, 0, none⟩) ∧ F p ∧ At w p 0 [.slice a L.length c] ∧ Sl encMe 3 F w a c L
theorem MbF.is {F : Nat → Prop} {w : World} {v : Value} {L : List Men} (h : MbF F w v L) : MbIs w v L :=
 let ⟨p, a, c, h1, _, h2, h3⟩ := h
 ⟨p, a, c, h1, h2, h3.top⟩
theorem MbF.keepD {F D : Nat → Prop} {γ : Prop} {w w' : World} {v : Value} {L : List Men} (h : MbF F w v L) (x : Bel γ D w w') (hd : ∀ g, g < w.heap.size → F g → ¬ D g) : MbF F w' v L :=
 let ⟨p, a, c, h1, h0, h2, h3⟩ := h
 ⟨p, a, c, h1, h0, h2.keep x (hd p h2.lt h0), h3.keep x hd⟩
theorem MbF.ext {F : Nat → Prop} {γ : Prop} {w w' : World} {v : Value} {L : List Men} (h : MbF F w v L) (x : Ext γ w w') : MbF F w' v L := h.keepD x fun _ _ _ => id
theorem MbF.mono {F F' : Nat → Prop} {w : World} {v : Value} {L : List Men} (h : MbF F w v L) (hd : ∀ g, g < w.heap.size → F g → F' g) : MbF F' w v L :=
 let ⟨p, a, c, h1, h0, h2, h3⟩ := h
 ⟨p, a, c, h1, hd p h2.lt h0, h2, h3.mono hd⟩
theorem MbF.blk {F : Nat → Prop} {w : World} {v : Value} {L : List Men} (h : MbF F w v L) : ∃ b, v = .pointer (some ⟨b, 0, none⟩) ∧ MbF F w (.pointer (some ⟨b, 0, none⟩)) L :=
 let ⟨p, a, c, h1, h0, h2, h3⟩ := h
 ⟨p, h1, p, a, c, rfl, h0, h2, h3⟩
theorem mbF_new {e : TypeId} {w : World} {b : Nat} {L : List Men} {a : Option Addr} {n c : Nat} {T : TypeId} {F D : Nat → Prop} (hb : Box w b T [.slice a n c]) (hF : F b) (hn : n = L.length) (h : Own encMe 3 e D w (.slice a n c) L) (hd : ∀ g, g < w.heap.size → D g → F g) : MbF F w (.pointer (some ⟨b, 0, none⟩)) L := by
 subst hn
 exact ⟨b, a, c, rfl, hF, hb.at, (h.slA Zq).mono hd⟩
theorem NtIs.kp {γ : Prop} {D : Nat → Prop} {w w' : World} {b n : Nat} (h : NtIs w (.pointer (some ⟨b, 0, none⟩)) n) (x : Bel γ D w w') (hd : ¬ D b) : NtIs w' (.pointer (some ⟨b, 0, none⟩)) n := by
 obtain ⟨p, a, c, m, h1, h2, h3⟩ := h
 cases h1
 exact ⟨b, a, c, m, rfl, h2.keep x hd, h3⟩
end Go.Lx
/- Tables of names: a list, and a map of numbers. Nothing of a program stands here. -/
namespace Go.Lx
open Go Go.RowKit Go.MapKept Go.ChangeMaps
def encN (i : Int) : Value := .int .i64 i
abbrev Nm (w : World) (b : Nat) (M : List (Str × Int)) : Prop := Mp str encN w b M
def Nm0 (F : Nat → Prop) (v : Value) (w : World) : Prop := v = .map none
def NmL (l : List Str) (F : Nat → Prop) (v : Value) (w : World) : Prop := ∃ g M, v = .map (some g) ∧ F g ∧ Nm w g M ∧ ∀ p ∈ M, p.1 ∈ l
def NmG (n : Nat) (l : List Str) (F : Nat → Prop) (v : Value) (w : World) : Prop := ∃ g M, v = .map (some g) ∧ F g ∧ n ≤ g ∧ Nm w g M ∧ ∀ p ∈ M, p.1 ∈ l
theorem NmG.keepS (n : Nat) (l : List Str) : KeepS (NmG n l) := fun F v γ D w w' x hd ⟨g, M, h1, h2, h0, h3, h4⟩ => ⟨g, M, h1, h2, h0, h3.keep x (hd g h3.lt h2), h4⟩
theorem Nm0.keepS : KeepS Nm0 := fun _ _ _ _ _ _ _ _ h => h
theorem NmL.keepS (l : List Str) : KeepS (NmL l) := fun F v γ D w w' x hd ⟨g, M, h1, h2, h3, h4⟩ => ⟨g, M, h1, h2, h3.keep x (hd g h3.lt h2), h4⟩
def NtM (w : World) (v : Value) (l : List Str) : Prop := ∃ p a c m, v = .pointer (some ⟨p, 0, none⟩) ∧ At w p 0 [.slice a l.length c, m] ∧ Sl encS 1 (Lt w.heap.size) w a c l ∧ ((l = [] ∧ m = .map none) ∨ NmL l (Lt w.heap.size) m w)
theorem NtM.ext {γ : Prop} {w w' : World} {v : Value} {l : List Str} (h : NtM w v l) (x : Ext γ w w') : NtM w' v l :=
 let ⟨p, a, c, m, h1, h2, h3, h4⟩ := h
 ⟨p, a, c, m, h1, h2.ext x, (h3.ext x).mono fun g hg _ => hg, h4.imp id fun ⟨g, M, k1, k2, k3, k4⟩ => ⟨g, M, k1, (k3.ext x).lt, k3.ext x, k4⟩⟩
theorem NtM.is {w : World} {v : Value} {l : List Str} (h : NtM w v l) : NtIs w v l.length :=
 let ⟨p, a, c, m, h1, h2, h3, _⟩ := h
 ⟨p, a, c, m, h1, h2, h3.le⟩
def postAg {α : Type} (S : (Nat → Prop) → Value → World → Prop) (enc : α → List Value) (k : Nat) (e : TypeId) (kc : Nat) (l : List α) : PostC := fun v w c => ∃ a m cp mm, v = .agg #[.slice a m cp, mm] ∧ postOwn enc k e kc l (.slice a m cp) w c ∧ ∃ F, (∀ g, F g → g < w.heap.size ∧ c g = 0) ∧ S F mm w
theorem YM {α : Type} {S : (Nat → Prop) → Value → World → Prop} {enc : α → List Value} {k kc : Nat} {e : TypeId} {l : List α} (hS : KeepS S) : StableC kc (postAg S enc k e kc l) := by
 rintro v w c w' c' q hq hx ⟨a, m, cp, mm, h1, h2, F, hF, hr⟩
 exact ⟨a, m, cp, mm, h1, Zc _ _ _ _ _ q hq hx h2, F, fun g hg => ⟨Nat.lt_of_lt_of_le (hF g hg).1 hx.bel.size, (hx.col g (hF g hg).1).trans (hF g hg).2⟩, hS _ _ _ _ _ _ hx.bel (fun g _ hg hd => hd.1 (by rw [← hd.2]; exact (hF g hg).2)) hr⟩
def postBx {α : Type} (w0 : World) (T : TypeId) (S : (Nat → Prop) → Value → World → Prop) (enc : α → List Value) (k : Nat) (e : TypeId) (kc : Nat) (l : List α) : PostC := fun v w c => ∃ b a m cp mm, v = .pointer (some ⟨b, 0, none⟩) ∧ w0.heap.size ≤ b ∧ Box w b T [.slice a m cp, mm] ∧ c b = 0 ∧ postOwn enc k e kc l (.slice a m cp) w c ∧ ∃ F, (∀ g, F g → g < b ∧ c g = 0) ∧ S F mm w
theorem YN {α : Type} {w0 : World} {T : TypeId} {S : (Nat → Prop) → Value → World → Prop} {enc : α → List Value} {k kc : Nat} {e : TypeId} {l : List α} (hS : KeepS S) : StableC kc (postBx w0 T S enc k e kc l) := by
 rintro v w c w' c' q hq hx ⟨b, a, m, cp, mm, h1, h2, h3, h4, h5, F, hF, hr⟩
 have hbl := h3.lt
 exact ⟨b, a, m, cp, mm, h1, h2, h3.keep hx.bel (fun hd => hd.1 (by rw [← hd.2]; exact h4)), (hx.col b hbl).trans h4, Zc _ _ _ _ _ q hq hx h5, F, fun g hg => ⟨(hF g hg).1, (hx.col g (Nat.lt_trans (hF g hg).1 hbl)).trans (hF g hg).2⟩, hS _ _ _ _ _ _ hx.bel (fun g _ hg hd => hd.1 (by rw [← hd.2]; exact (hF g hg).2)) hr⟩
theorem OpC_bx {α : Type} {β : Prop} {P : Program} {fr : Fr} {w w0 : World} {c : Nat → Nat} {ops : Array Oper} {T : TypeId} {S : (Nat → Prop) → Value → World → Prop} {enc : α → List Value} {k kc : Nat} {e : TypeId} {l : List α} {z : Value} {o : Oper} (hS : KeepS S) (hw : w0.heap.size ≤ w.heap.size) (hg : o.guard = none) (h : xop P fr w o = .ok (.value (.pointer (some ⟨w.heap.size, 0, none⟩))) (w.alloc (.cells z.cells T))) (hz : postAg S enc k e kc l z w c) (hd : o.dst.isSome = true := by rfl) : OpC β kc P ops o fr w c (postBx w0 T S enc k e kc l) := by
 obtain ⟨a, m, cp, mm, rfl, h2, F, hF, hr⟩ := hz
 have hB := Box.alloc w (Value.agg #[.slice a m cp, mm]).cells T
 have x : Ext β w (w.alloc (.cells (Value.agg #[.slice a m cp, mm]).cells T)) := Ext.alloc _ _
 have ho : Own enc k e (fun b => newC c w 0 b = kc) (w.alloc (.cells (Value.agg #[.slice a m cp, mm]).cells T)) (.slice a m cp) l := by
  have h3 : Own enc k e (fun b => c b = kc ∧ b < w.heap.size) w (.slice a m cp) l := Own.mono h2 fun g h1 h2 => ⟨h2, h1⟩
  exact (h3.ext x).mono fun g _ h => (ZQ h.2).trans h.1
 refine .inl ⟨by simp [Region.wanted, hg], .inl ⟨_, _, newC c w 0, .inl ⟨h, hd⟩, StepC.ext x fun _ hb => ZQ hb, w.heap.size, a, m, cp, mm, rfl, hw, ?_, Z6 (Nat.le_refl _), ho, F, fun g hg => ⟨(hF g hg).1, (ZQ (hF g hg).1).trans (hF g hg).2⟩, hS _ _ _ _ _ _ x (fun _ _ _ => id) hr⟩⟩
 have e1 : (Value.agg #[.slice a m cp, mm]).cells.toList = [.slice a m cp, mm] := by simp [Value.cells]
 rw [e1] at hB
 exact hB
section
variable {rd : Option Nat} {P : Program} {n : Nat} {Q : Fr → World → Prop} {fr : Fr} {w : World} {ops : Array Oper} {rest : List Oper} {d : Option Nat} {t : TypeId} {ps : String} {af : Array Edge} {T K E : TypeId} {k : Str} {b : Nat} {M : List (Str × Int)} {x y z : Operand} {a : Int}
theorem Rg_nput (hd : dstOk n d = true) (hT : P.underlying T = some (.map K E)) (hK : P.underlying K = some .string) (hx : ev fr x = .map (some b)) (hy : ev fr y = str k) (hz : ev fr z = .int .i64 a) (h : Nm w b M)
  (hk : ∀ w', Bel True (Only b) w w' → Nm w' b (putM M k a) → Rg rd P n ops rest Q (fr.put d undef) w') : Rg rd P n ops (⟨d, .mapUpdate T x y z, t, ps, af, none⟩ :: rest) Q fr w :=
 Rg_mput (a := a) hd hT hK str_key hx hy hz h hk
theorem Rg_nmk (hd : dstOk n d = true)
  (hk : ∀ b w', Ext True w w' → w.heap.size ≤ b → b < w'.heap.size → Nm w' b [] → Rg rd P n ops rest Q (fr.put d (.map (some b))) w') : Rg rd P n ops (⟨d, .makeMap T none, t, ps, af, none⟩ :: rest) Q fr w :=
 Rg_mmk str encN hd hk
theorem Rg_nclone {f : FuncId} {x : Operand} {tys : Array TypeId} (hd : dstOk n d = true) (hc : ∀ (b : Nat) (es : Array MapEntry) (c : Nat) (w : World), w.heap[b]? = some (.map es c) → (callFunc f #[.iface T (.map (some b))]).run P w = .ok (.value (.iface T (.map (some w.heap.size)))) (w.alloc (.map es c)))
  (hx : ev fr x = .iface T (.map (some b))) (h : Nm w b M) (hk : ∀ b' w', Ext True w w' → w.heap.size ≤ b' → b' < w'.heap.size → Nm w' b' M → Rg rd P n ops rest Q (fr.put d (.iface T (.map (some b')))) w') :
  Rg rd P n ops (⟨d, .call { callee := .value (.func f), args := #[x], argTypes := tys }, t, ps, af, none⟩ :: rest) Q fr w := by
 obtain ⟨es, c, h1, h2, h3⟩ := h
 refine ZX hd (v := .iface T (.map (some w.heap.size))) (w' := w.alloc (.map es c)) ?_ (hk _ _ (Ext.alloc _ _) (Nat.le_refl _) (by simp) ⟨es, c, heap_alloc_new w _, h2, h3⟩)
 have e : ev fr (.func f) = .func (.func f) #[] #[] := rfl
 simp [execOp, resolve, e, hx, Deferred.ofValue, invoke, hc b es c w h1]
theorem o_nlook {g : Option (Nat × Bool)} (hT : P.underlying T = some (.map K E)) (hK : P.underlying K = some .string) (hz : ∀ w, (zeroValue E).run P w = .ok (.int .i64 0) w) (h : Nm w b M) (hx : ev fr x = .map (some b)) (hy : ev fr y = str k) (hn : ∀ p ∈ M, p.1 ≠ k) :
  xop P fr w ⟨d, .lookup T x y false, t, ps, af, g⟩ = .ok (.value (.int .i64 0)) w := by
 have := Yr (ok := false) (d := d) (t := t) (ps := ps) (af := af) (g := g) (z0 := (0 : Int)) (k := k) hT hK str_key hz h hx hy
 rw [getM_no hn] at this
 exact this
theorem o_nlook0 {g : Option (Nat × Bool)} (hT : P.underlying T = some (.map K E)) (hK : P.underlying K = some .string) (hz : ∀ w, (zeroValue E).run P w = .ok (.int .i64 0) w) (hx : ev fr x = .map none) (hy : ev fr y = str k) :
  xop P fr w ⟨d, .lookup T x y false, t, ps, af, g⟩ = .ok (.value (.int .i64 0)) w := by
 have hck : ∀ e, (Instr.checkKey e 10000 K (str k)).run P w = .ok () w := fun e => run_checkKey hK (str_key.key k) e 9999
 have hfk : (Instr.findKey K (str k) []).run P w = .ok none w := run_findKey hK rfl
 have : (Instr.lookup T (.map none) (str k) false).run P w = .ok (.int .i64 0) w := by simp [Instr.lookup, run_underlying hT, hck, hfk, hz]
 simp [xop, execOp, hx, hy, this]
theorem o_meqnil0 {g : Option (Nat × Bool)} {U : TypeId} (hT : P.underlying T = some (.map K E)) (hx : ev fr x = .map none) (hy : ev fr y = .map none) : xop P fr w ⟨d, .binOp .eql T x y U, t, ps, af, g⟩ = .ok (.value (.bool true)) w := by
 have := run_eql_map_nil (P := P) w T K E none hT
 simp only [xop, execOp, hx, hy, eqGuard]
 simp [this]
end
theorem putM_keys {M : List (Str × Int)} {k : Str} {a : Int} {l : List Str} (h : ∀ p ∈ M, p.1 ∈ l) : ∀ p ∈ putM M k a, p.1 ∈ l ++ [k] := by
 intro p hp
 unfold putM at hp
 split at hp
 ·obtain ⟨q, hq, rfl⟩ := List.mem_map.1 hp
  split
  ·simp
  ·exact List.mem_append_left _ (h q hq)
 ·rcases List.mem_append.1 hp with hp | hp
  ·exact List.mem_append_left _ (h p hp)
  ·rw [List.mem_singleton.1 hp]; simp
end Go.Lx
/- The parts of a state, and a state; lists in variables that a region makes. Nothing of a program stands here. -/
namespace Go.Lx
open Go Go.RowKit
abbrev pB (b : Nat) : Value := .pointer (some ⟨b, 0, none⟩)
structure PtV where
 day : Int
 us : Nat
 rs : Nat
 aa : Option Addr
 ca : Nat
 lk : Nat
 mb : Nat
 gr : Nat
 ar : Option Addr
 cr : Nat
 ac : Option Addr
 cc : Nat
 ss : Nat
abbrev ptC (p : PtV) : List Value := [.int .i64 p.day, pB p.us, pB p.rs, .slice p.aa 0 p.ca, pB p.lk, pB p.mb, pB p.gr, .slice p.ar 0 p.cr, .slice p.ac 0 p.cc, pB p.ss]
def OkS (a : Option Addr) (c : Nat) : Prop := c ≤ maxLen ∧ (a = none → c = 0)
theorem OkS.sl {α : Type} {enc : α → List Value} {k : Nat} {F : Nat → Prop} {w : World} {a : Option Addr} {c : Nat} (h : OkS a c) : Sl enc k F w a c [] := ⟨Nat.zero_le _, h.1, h.2, fun i x h => by simp at h⟩
theorem OkS.set {F : Nat → Prop} {w : World} {a : Option Addr} {c : Nat} (h : OkS a c) : Sl encU 1 F w a c (wl 0) := h.sl (enc := encU)
structure PtIs (w : World) (p : PtV) (n m : Nat) (L : List Men) : Prop where
 us : NtIs w (pB p.us) n
 rs : NtIs w (pB p.rs) m
 lk : HyIs w (pB p.lk) []
 mb : MbIs w (pB p.mb) L
 gr : GbIs w (pB p.gr) []
 ss : BkIs w (pB p.ss) []
 oa : OkS p.aa p.ca
 orl : OkS p.ar p.cr
theorem PtIs.ext {γ : Prop} {w w' : World} {p : PtV} {n m : Nat} {L : List Men} (h : PtIs w p n m L) (x : Ext γ w w') : PtIs w' p n m L :=
 ⟨h.us.ext x, h.rs.ext x, h.lk.ext x, h.mb.ext x, h.gr.ext x, h.ss.ext x, h.oa, h.orl⟩
theorem PtIs.lists {w : World} {p : PtV} {n m : Nat} {L : List Men} {a : Option Addr} (h : PtIs w p n m L) : PtIs w { p with ar := a, cr := 0, ac := none, cc := 0 } n m L :=
 ⟨h.us, h.rs, h.lk, h.mb, h.gr, h.ss, h.oa, ⟨Nat.zero_le _, fun _ => rfl⟩⟩
theorem NtIs.blk {w : World} {v : Value} {n : Nat} (h : NtIs w v n) : ∃ b, v = pB b ∧ NtIs w (pB b) n := let ⟨p, a, c, m, h1, h2, h3⟩ := h; ⟨p, h1, p, a, c, m, rfl, h2, h3⟩
theorem MbIs.blk {w : World} {v : Value} {L : List Men} (h : MbIs w v L) : ∃ b, v = pB b ∧ MbIs w (pB b) L := let ⟨p, a, c, h1, h2, h3⟩ := h; ⟨p, h1, p, a, c, rfl, h2, h3⟩
theorem HyIs.blk {w : World} {v : Value} {L : List Pr} (h : HyIs w v L) : ∃ b, v = pB b ∧ HyIs w (pB b) L := let ⟨p, q, o, h1, h2⟩ := h; ⟨p, h1, p, q, o, rfl, h2⟩
theorem BkIs.blk {w : World} {v : Value} {m : List RS} (h : BkIs w v m) : ∃ b, v = pB b ∧ BkIs w (pB b) m := let ⟨p, q, h1, h2⟩ := h; ⟨p, h1, p, q, rfl, h2⟩
def encRul (_ : Unit) : List Value := [.bool false, .int .i64 0, .int .i64 0, .slice none 0 0, .slice none 0 0, .slice none 0 0, .int .i64 0]
theorem encRul_ok : EncOk encRul 7 := ⟨by decide, fun _ => rfl, fun x u hu => by
 simp [encRul] at hu
 rcases hu with rfl | rfl | rfl | rfl <;> rfl⟩
theorem OpC.mono3 {β : Prop} {k : Nat} {P : Program} {ops : Array Oper} {o : Oper} {fr : Fr} {w : World} {c : Nat → Nat} {S S' : PostC} (h : OpC β k P ops o fr w c S) (hs : ∀ v w' c', StepC β k w c w' c' → S v w' c' → S' v w' c') : OpC β k P ops o fr w c S' := by
 rcases h with ⟨h1, h2⟩ | ⟨h1, h2⟩
 ·left
  refine ⟨h1, ?_⟩
  rcases h2 with ⟨v, w', c', g1, g2, g3⟩ | ⟨f, args, w0, g1, g0, g2⟩
  ·exact .inl ⟨v, w', c', g1, g2, hs _ _ _ g2 g3⟩
  ·exact .inr ⟨f, args, w0, g1, g0, g2.mono fun v w' ⟨c', a, b⟩ => ⟨c', a, hs _ _ _ a b⟩⟩
 ·exact .inr ⟨h1, hs _ _ _ (StepC.rfl' _ _ _) h2⟩
def SvN (n : Nat) (e : W64) (F : Nat → Prop) (v : Value) (w : World) : Prop := (∀ g, F g → n ≤ g) ∧ ∃ a c, v = .agg (encSV ⟨a, c, e⟩).toArray ∧ Sl encU 1 F w a c (wl e)
theorem SvN.keepS (n : Nat) (e : W64) : KeepS (SvN n e) := fun F v γ D w w' x hd ⟨h0, a, c, h1, h2⟩ => ⟨h0, a, c, h1, h2.keep x hd⟩
def SlW (x : W64) (F : Nat → Prop) (v : Value) (w : World) : Prop := ∃ a c, v = .slice a (wl x).length c ∧ Sl encU 1 F w a c (wl x)
theorem SlW.keepS (x : W64) : KeepS (SlW x) := fun F v γ D w w' x' hd ⟨a, c, h1, h2⟩ => ⟨a, c, h1, h2.keep x' hd⟩
end Go.Lx
/- A state of whatever parts: what its parts are, and what is asked of them. Nothing of a program stands here. -/
namespace Go.Lx
open Go Go.RowKit
def allW (m : Nat) : W64 := if m = 6 then 126 else 6
structure StV where
 us : List Str
 rs : List Str
 lk : List Pr
 mb : List Men
 gr : List Ent
 ss : List RS
structure PsIs (w : World) (p : PtV) (s : StV) : Prop where
 us : NtM w (pB p.us) s.us
 rs : NtM w (pB p.rs) s.rs
 lk : HyIs w (pB p.lk) s.lk
 mb : MbIs w (pB p.mb) s.mb
 gr : GbIs w (pB p.gr) s.gr
 ss : BkIs w (pB p.ss) s.ss
 oa : OkS p.aa p.ca
 orl : OkS p.ar p.cr
theorem NtM.blk {w : World} {v : Value} {l : List Str} (h : NtM w v l) : ∃ b, v = pB b ∧ NtM w (pB b) l := let ⟨p, a, c, m, h1, h2, h3, h4⟩ := h; ⟨p, h1, p, a, c, m, rfl, h2, h3, h4⟩
theorem GbIs.blk {w : World} {v : Value} {m : List Ent} (h : GbIs w v m) : ∃ b, v = pB b ∧ GbIs w (pB b) m := let ⟨p, a, c, h1, h2, h3⟩ := h; ⟨p, h1, p, a, c, rfl, h2, h3⟩
theorem PsIs.ext {γ : Prop} {w w' : World} {p : PtV} {s : StV} (h : PsIs w p s) (x : Ext γ w w') : PsIs w' p s :=
 ⟨h.us.ext x, h.rs.ext x, h.lk.ext x, h.mb.ext x, h.gr.ext x, h.ss.ext x, h.oa, h.orl⟩
abbrev ptL (p : PtV) (a : Option Addr) : PtV := { p with ar := a, cr := 0, ac := none, cc := 0 }
theorem PsIs.lists {w : World} {p : PtV} {s : StV} {a : Option Addr} (h : PsIs w p s) : PsIs w (ptL p a) s :=
 ⟨h.us, h.rs, h.lk, h.mb, h.gr, h.ss, h.oa, ⟨Nat.zero_le _, fun _ => rfl⟩⟩
structure StOk (s : StV) : Prop where
 m : s.rs.length = 2 ∨ s.rs.length = 6
 mb : OkN s.mb
 gr : OkG s.gr
 ss : OkM s.ss
 lkl : s.lk.length ≤ 1000
 lk1 : ∀ x ∈ s.lk, hasW (allW s.rs.length) (iv x.1) = true ∧ hasW (allW s.rs.length) (iv x.2) = true
 mb1 : ∀ x ∈ s.mb, x.u ≤ s.us.length ∧ hasW (allW s.rs.length) x.r = true
 gr1 : ∀ e ∈ s.gr, hasW (allW s.rs.length) e.r = true
 ss1 : ∀ x ∈ s.ss, x.u ≤ s.us.length ∧ subW x.x (allW s.rs.length) = true
theorem Zn {γ : Prop} {w w' : World} {po : Nat} {o : OV} (h : OdAt (Lt w.heap.size) w po o) (x : Ext γ w w') : OdAt (Lt w'.heap.size) w' po o := (h.ext x).mono fun _ hb _ => hb
theorem hasW0 (i : Int) : hasW 0 i = false := by unfold hasW; simp
theorem iv_I64 (x : Fin 64) : I64 (iv x) := by have := ZT x; unfold I64; omega
theorem sub0 {m : Nat} (h : m = 2 ∨ m = 6) : subW 0 (allW m) = true := by rcases h with rfl | rfl <;> decide
