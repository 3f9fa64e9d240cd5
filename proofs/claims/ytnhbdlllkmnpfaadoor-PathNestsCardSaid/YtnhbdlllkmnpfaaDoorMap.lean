/- Maps with keys of a basic type: what a block holds, in the order of its entries; look-up, store, length, deletion, and a range in whatever order. Nothing of a program stands here. -/
import Derived.Test.YtnhbdlllkmnpfaaDoorOwn2
import Derived.Maps.RangeRun
import Derived.WalkSpells
namespace Go.Lx
open Go Go.RowKit Go.MapKept Go.ChangeMaps
set_option linter.unusedSimpArgs false
set_option linter.unusedVariables false
set_option linter.unnecessarySimpa false
set_option linter.unusedSectionVars false
theorem o_slfrom {P : Program} {fr : Fr} {w : World} {d : Option Nat} {t e T : TypeId} {ps : String} {af : Array Edge} {g : Option (Nat × Bool)} {x y : Operand} {a : Option Addr} {m c s j : Nat} (hP : P.underlying T = some (.slice e)) (hs : ∀ w, (sizeOf e).run P w = .ok s w) (hx : ev fr x = .slice a m c) (hj : ev fr y = .int .i64 (j : Int)) (hl : j ≤ m) (hc : m ≤ c) :
    xop P fr w ⟨d, .slice T x (some y) none none, t, ps, af, g⟩ = .ok (.value (.slice (if c = j then a else elp a (j * s)) (m - j) (c - j))) w := by
  rcases Nat.lt_or_ge j c with h | h
  · rw [if_neg (by omega)]; exact o_sfromO hP hs hx hj hl h
  · obtain rfl : c = j := by omega
    obtain rfl : m = c := by omega
    rw [if_pos rfl]
    simp [xop, execOp, hx, hj, Instr.slice, Instr.sliceAt, Instr.sliceBounds, Instr.sliceBound, asIntOf, run_underlying hP, hs, elp]
structure KeyEnc {κ : Type} (d : TypeDesc) (ek : κ → Value) : Prop where
  key : ∀ k, IsKey d (ek k)
  inj : ∀ a b, ek a = ek b → a = b
theorem str_key : KeyEnc .string str := ⟨fun _ => trivial, fun a b h => by simp [str] at h; exact h⟩
section
variable {κ α : Type} [DecidableEq κ]
def rowM (ek : κ → Value) (em : α → Value) (l : List (κ × α)) : List (Value × Value) := l.map fun p => (ek p.1, em p.2)
def entM (es : List MapEntry) : List (Value × Value) := es.map fun e => (e.key, e.val)
/-- Block b is a map: what it holds, in the order of its entries. -/
def Mp (ek : κ → Value) (em : α → Value) (w : World) (b : Nat) (l : List (κ × α)) : Prop :=
  ∃ es clock, w.heap[b]? = some (.map es clock) ∧ Stamped es clock ∧ entM es.toList = rowM ek em l
/-- Block r ranges over the map b: what is left of it; the entry that has come last. -/
def It (ek : κ → Value) (em : α → Value) (w : World) (r b : Nat) (l left : List (κ × α)) (cur : Option (κ × α)) : Prop :=
  ∃ es clock seen, w.heap[b]? = some (.map es clock) ∧ Stamped es clock ∧ entM es.toList = rowM ek em l ∧ w.heap[r]? = some (.mapIter (some b) clock seen clock) ∧ entM (leftOf es seen).toList = rowM ek em left ∧
    ∀ p, cur = some p → ∃ e ∈ es.toList, (e.key, e.val) = (ek p.1, em p.2) ∧ ∃ s0 : Array Nat, seen = s0.push e.born
def getM (l : List (κ × α)) (k : κ) : Option α := (l.find? fun p => decide (p.1 = k)).map (·.2)
def putM (l : List (κ × α)) (k : κ) (a : α) : List (κ × α) := if l.any (fun p => decide (p.1 = k)) then l.map (fun p => if p.1 = k then (k, a) else p) else l ++ [(k, a)]
def delM (l : List (κ × α)) (k : κ) : List (κ × α) := l.filter fun p => !decide (p.1 = k)
variable {ek : κ → Value} {em : α → Value} {w w' : World} {b r : Nat} {l left : List (κ × α)} {cur : Option (κ × α)}
theorem Mp.lt (h : Mp ek em w b l) : b < w.heap.size := let ⟨_, _, h1, _⟩ := h; (Array.getElem?_eq_some_iff.1 h1).1
theorem Mp.keep {γ : Prop} {D : Nat → Prop} (h : Mp ek em w b l) (x : Bel γ D w w') (hd : ¬ D b) : Mp ek em w' b l := by
  have hl := h.lt
  obtain ⟨es, c, h1, h2, h3⟩ := h
  exact ⟨es, c, by rw [x.block b hl hd]; exact h1, h2, h3⟩
theorem Mp.ext {γ : Prop} (h : Mp ek em w b l) (x : Ext γ w w') : Mp ek em w' b l := h.keep x id
theorem It.lt (h : It ek em w r b l left cur) : r < w.heap.size := let ⟨_, _, _, _, _, _, h1, _⟩ := h; (Array.getElem?_eq_some_iff.1 h1).1
theorem It.mp (h : It ek em w r b l left cur) : Mp ek em w b l := let ⟨es, c, _, h1, h2, h3, _⟩ := h; ⟨es, c, h1, h2, h3⟩
theorem It.keep {γ : Prop} {D : Nat → Prop} (h : It ek em w r b l left cur) (x : Bel γ D w w') (hd : ¬ D r) (hd' : ¬ D b) : It ek em w' r b l left cur := by
  have hl := h.lt
  have hl' := h.mp.lt
  obtain ⟨es, c, s, h1, h2, h3, h4, h5⟩ := h
  exact ⟨es, c, s, by rw [x.block b hl' hd']; exact h1, h2, h3, by rw [x.block r hl hd]; exact h4, h5⟩
theorem It.ext {γ : Prop} (h : It ek em w r b l left cur) (x : Ext γ w w') : It ek em w' r b l left cur := h.keep x id id
theorem entM_keys {es : List MapEntry} (h : entM es = rowM ek em l) : es.map (·.key) = l.map fun p => ek p.1 := by
  have := congrArg (List.map Prod.fst) h
  simpa [entM, rowM, List.map_map, Function.comp_def] using this
theorem keys_is {d : TypeDesc} (he : KeyEnc d ek) {es : List MapEntry} (h : entM es = rowM ek em l) : ∀ x ∈ es, IsKey d x.key := by
  intro x hx
  have : x.key ∈ es.map (·.key) := List.mem_map.2 ⟨x, hx, rfl⟩
  rw [entM_keys h] at this
  obtain ⟨p, _, e⟩ := List.mem_map.1 this
  rw [← e]; exact he.key p.1
theorem ent_get {es : List MapEntry} (h : entM es = rowM ek em l) {j : Nat} {e : MapEntry} (hj : es[j]? = some e) : ∃ p, l[j]? = some p ∧ e.key = ek p.1 ∧ e.val = em p.2 := by
  have h1 : (entM es)[j]? = some (e.key, e.val) := by simp [entM, hj]
  rw [h] at h1
  simp only [rowM, List.getElem?_map] at h1
  cases hp : l[j]? with
  | none => simp [hp] at h1
  | some p =>
    simp [hp] at h1
    exact ⟨p, rfl, h1.1.symm, h1.2.symm⟩
theorem keys_nd {d : TypeDesc} (he : KeyEnc d ek) {es : Array MapEntry} {c : Nat} (hs : Stamped es c) (h : entM es.toList = rowM ek em l) : (l.map (·.1)).Nodup := by
  have h3 := hs.2.2
  rw [entM_keys h] at h3
  have : (l.map (·.1)).map ek = l.map fun p => ek p.1 := by simp [List.map_map, Function.comp_def]
  rw [← this] at h3
  exact (List.pairwise_map.1 h3).imp fun hne e => hne (by rw [e])
theorem Mp.nd {d : TypeDesc} (he : KeyEnc d ek) (h : Mp ek em w b l) : (l.map (·.1)).Nodup := let ⟨_, _, _, h2, h3⟩ := h; keys_nd he h2 h3
/-- Either the key is not there, or it stands at place j. -/
theorem find_cases {d : TypeDesc} (he : KeyEnc d ek) {es : List MapEntry} (h : entM es = rowM ek em l) (k : κ) :
    (Instr.findNow d (ek k) es 0 = some none ∧ (∀ p ∈ l, p.1 ≠ k) ∧ ∀ x ∈ es, x.key ≠ ek k) ∨ ∃ j e a, Instr.findNow d (ek k) es 0 = some (some (j, e.val)) ∧ es[j]? = some e ∧ e.key = ek k ∧ e.val = em a ∧ l[j]? = some (k, a) := by
  rcases findNow_spec (he.key k) es 0 (keys_is he h) with ⟨h1, h2⟩ | ⟨j, e, h1, h2, h3⟩
  · refine .inl ⟨h1, fun p hp e => ?_, h2⟩
    have : ek p.1 ∈ l.map fun p => ek p.1 := List.mem_map.2 ⟨p, hp, rfl⟩
    rw [← entM_keys h] at this
    obtain ⟨x, hx, ex⟩ := List.mem_map.1 this
    exact h2 x hx (by rw [ex, e])
  · obtain ⟨p, hp, e1, e2⟩ := ent_get h h2
    have ek' : p.1 = k := he.inj _ _ (by rw [← e1, h3])
    refine .inr ⟨j, e, p.2, by simpa using h1, h2, h3, e2, ?_⟩
    rw [hp, ← ek']
theorem getM_no {k : κ} (h : ∀ p ∈ l, p.1 ≠ k) : getM l k = none := by
  unfold getM
  rw [List.find?_eq_none.2 (fun p hp => by simpa using h p hp)]; rfl
theorem getM_at {k : κ} {a : α} {j : Nat} (hn : (l.map (·.1)).Nodup) (h : l[j]? = some (k, a)) : getM l k = some a := by
  unfold getM
  have hm : (k, a) ∈ l := List.mem_of_getElem? h
  cases hf : l.find? fun p => decide (p.1 = k) with
  | none => exact absurd (List.find?_eq_none.1 hf _ hm) (by simp)
  | some q =>
    have hq := List.mem_of_find?_eq_some hf
    have hk := List.find?_some hf
    simp only [decide_eq_true_eq] at hk
    have : q = (k, a) := by
      have hinj := (List.pairwise_map.1 hn)
      obtain ⟨i, hi, ei⟩ := List.getElem_of_mem hq
      obtain ⟨j', hj', ej⟩ := List.getElem_of_mem hm
      rcases Nat.lt_trichotomy i j' with hlt | heq | hlt
      · have := (List.pairwise_iff_getElem.1 hinj) i j' hi hj' hlt
        rw [ei, ej] at this; exact absurd hk this
      · subst heq; rw [← ei, ← ej]
      · have := (List.pairwise_iff_getElem.1 hinj) j' i hj' hi hlt
        rw [ei, ej] at this; exact absurd hk.symm this
    rw [this]; rfl
section
variable {P : Program} {fr : Fr} {d : Option Nat} {t : TypeId} {ps : String} {af : Array Edge} {g : Option (Nat × Bool)} {x y z : Operand} {T K E : TypeId} {D : TypeDesc} {k : κ} {a z0 : α}
theorem run_lookup {ok : Bool} (hT : P.underlying T = some (.map K E)) (hK : P.underlying K = some D) (he : KeyEnc D ek) (hz : ∀ w, (zeroValue E).run P w = .ok (em z0) w) (h : Mp ek em w b l) :
    (Instr.lookup T (.map (some b)) (ek k) ok).run P w = .ok (if ok then .tuple #[em ((getM l k).getD z0), .bool (getM l k).isSome] else em ((getM l k).getD z0)) w := by
  obtain ⟨es, c, h1, h2, h3⟩ := h
  have hck : ∀ e, (Instr.checkKey e 10000 K (ek k)).run P w = .ok () w := fun e => run_checkKey hK (he.key k) e 9999
  rcases find_cases he h3 k with ⟨f1, f2, _⟩ | ⟨j, e, a, f1, f2, f3, f4, f5⟩
  · rw [getM_no f2]
    cases ok <;> simp [Instr.lookup, run_underlying hT, MapKept.run_getObj_map h1, hck, run_findKey hK f1, hz]
  · rw [getM_at (keys_nd he h2 h3) f5]
    cases ok <;> simp [Instr.lookup, run_underlying hT, MapKept.run_getObj_map h1, hck, run_findKey hK f1, ← f4]
theorem o_lookup {ok : Bool} (hT : P.underlying T = some (.map K E)) (hK : P.underlying K = some D) (he : KeyEnc D ek) (hz : ∀ w, (zeroValue E).run P w = .ok (em z0) w) (h : Mp ek em w b l) (hx : ev fr x = .map (some b)) (hy : ev fr y = ek k) :
    xop P fr w ⟨d, .lookup T x y ok, t, ps, af, g⟩ = .ok (.value (if ok then .tuple #[em ((getM l k).getD z0), .bool (getM l k).isSome] else em ((getM l k).getD z0))) w := by
  have := run_lookup (ok := ok) (k := k) hT hK he hz h
  simp [xop, execOp, hx, hy, this]
theorem o_mlen {U R : TypeId} (hT : P.underlying T = some (.map K E)) (h : Mp ek em w b l) (hx : ev fr x = .map (some b)) :
    xop P fr w ⟨d, .call { callee := .builtin .len, args := #[x], argTypes := #[T] }, t, ps, af, g⟩ = .ok (.value (.int .i64 (l.length : Int))) w := by
  obtain ⟨es, c, h1, h2, h3⟩ := h
  have e : es.size = l.length := by
    have := congrArg List.length h3
    simpa [entM, rowM] using this
  have hl : (Builtin.len_ #[T] t #[.map (some b)]).run P w = .ok (goInt l.length) w := by simp [Builtin.len_, run_underlying hT, MapKept.run_getObj_map h1, e]
  simp [xop, execOp, resolve, invoke, builtin, hx, hl, goInt]
end
theorem Bel.block1 {β : Prop} {b : Nat} (w : World) (o : Obj) : Bel β (Only b) w (setBlock w b o) :=
  ⟨rfl, rfl, rfl, by simp [setBlock], fun j _ hj => by simp only [setBlock]; rw [Array.getElem?_setIfInBounds_ne (fun e => hj e.symm)], fun _ => Nat.le_refl _⟩
theorem block1_same {w : World} {b : Nat} {o1 : Obj} (h : w.heap[b]? = some o1) (o : Obj) : (setBlock w b o).heap[b]? = some o := by
  have hl := (Array.getElem?_eq_some_iff.1 h).1
  simp [setBlock, hl]
theorem map_eraseIdx' {β γ : Type} (f : β → γ) : ∀ (l : List β) (j : Nat), (l.map f).eraseIdx j = (l.eraseIdx j).map f
  | [], _ => by simp
  | _ :: _, 0 => by simp
  | x :: r, j + 1 => by simp [map_eraseIdx' f r j]
theorem putM_no {k : κ} {a : α} (h : ∀ p ∈ l, p.1 ≠ k) : putM l k a = l ++ [(k, a)] := by
  unfold putM
  rw [if_neg]
  rw [List.any_eq_true]
  rintro ⟨p, hp, e⟩
  exact h p hp (by simpa using e)
theorem other_key {l : List (κ × α)} {k : κ} {a : α} {i j : Nat} (hn : (l.map (·.1)).Nodup) (h : l[j]? = some (k, a)) {p : κ × α} (hp : l[i]? = some p) (hij : i ≠ j) : p.1 ≠ k := by
  have hinj := List.pairwise_iff_getElem.1 (List.pairwise_map.1 hn)
  obtain ⟨hi, ei⟩ := List.getElem?_eq_some_iff.1 hp
  obtain ⟨hj, ej⟩ := List.getElem?_eq_some_iff.1 h
  intro e
  rcases Nat.lt_or_gt_of_ne hij with hlt | hlt
  · have := hinj i j hi hj hlt
    rw [ei, ej] at this; exact this e
  · have := hinj j i hj hi hlt
    rw [ei, ej] at this; exact this e.symm
theorem putM_at {k : κ} {a0 a : α} {j : Nat} (hn : (l.map (·.1)).Nodup) (h : l[j]? = some (k, a0)) : putM l k a = l.set j (k, a) := by
  unfold putM
  rw [if_pos (List.any_eq_true.2 ⟨(k, a0), List.mem_of_getElem? h, by simp⟩)]
  apply List.ext_getElem?
  intro i
  rw [List.getElem?_map, List.getElem?_set]
  by_cases hij : j = i
  · subst hij
    have hj := (List.getElem?_eq_some_iff.1 h).1
    rw [h]; simp [hj]
  · rw [if_neg hij]
    cases hp : l[i]? with
    | none => rfl
    | some p =>
      have := other_key hn h hp (fun e => hij e.symm)
      simp [this]
theorem delM_no {k : κ} (h : ∀ p ∈ l, p.1 ≠ k) : delM l k = l := by
  unfold delM
  rw [List.filter_eq_self]
  intro p hp
  simpa using h p hp
theorem delM_at {k : κ} {a0 : α} : ∀ {l : List (κ × α)} {j : Nat}, (l.map (·.1)).Nodup → l[j]? = some (k, a0) → delM l k = l.eraseIdx j
  | [], j, _, h => by simp at h
  | p :: r, 0, hn, h => by
    simp at h
    subst h
    simp only [List.map_cons, List.nodup_cons] at hn
    have := delM_no (l := r) (k := k) (fun q hq e => hn.1 (List.mem_map.2 ⟨q, hq, e⟩))
    unfold delM at this ⊢
    simp [this]
  | p :: r, j + 1, hn, h => by
    have hne := other_key hn h (i := 0) (p := p) rfl (by omega)
    simp only [List.map_cons, List.nodup_cons] at hn
    have := delM_at (l := r) (j := j) hn.2 (by simpa using h)
    unfold delM at this ⊢
    simp [hne, this]
theorem entM_modify {es : Array MapEntry} {j : Nat} {f : MapEntry → MapEntry} {e : MapEntry} (h : es[j]? = some e) : entM (es.modify j f).toList = (entM es.toList).set j ((f e).key, (f e).val) := by
  apply List.ext_getElem?
  intro i
  simp only [entM, List.getElem?_map, Array.getElem?_toList, Array.getElem?_modify, List.getElem?_set, List.length_map, Array.length_toList]
  have hj := (Array.getElem?_eq_some_iff.1 h).1
  by_cases hij : j = i
  · subst hij
    have he := (Array.getElem?_eq_some_iff.1 h).2
    simp [h, hj, he]
  · simp [hij]
section
variable {P : Program} {T K E : TypeId} {D : TypeDesc} {k : κ} {a : α}
theorem run_mput (hT : P.underlying T = some (.map K E)) (hK : P.underlying K = some D) (he : KeyEnc D ek) (h : Mp ek em w b l) :
    ∃ w', (Instr.mapUpdate T (.map (some b)) (ek k) (em a)).run P w = .ok () w' ∧ Bel True (Only b) w w' ∧ Mp ek em w' b (putM l k a) := by
  obtain ⟨es, c, h1, h2, h3⟩ := h
  have hck : (Instr.checkKey false 10000 K (ek k)).run P w = .ok () w := run_checkKey hK (he.key k) false 9999
  rcases find_cases he h3 k with ⟨f1, f2, f3⟩ | ⟨j, e, a0, f1, f2, f3, f4, f5⟩
  · refine ⟨setBlock w b (.map (es.push { key := ek k, val := em a, born := c }) (c + 1)), ?_, Bel.block1 _ _, _, _, block1_same h1 _, stamped_push h2 f3, ?_⟩
    · simp [Instr.mapUpdate, run_underlying hT, MapKept.run_getObj_map h1, hck, run_findKey hK f1, run_setObj_map _ h1, setBlock]
    · rw [putM_no f2]
      simp only [entM, rowM, Array.toList_push, List.map_append, List.map_cons, List.map_nil] at h3 ⊢
      rw [h3]
  · have f2' : es[j]? = some e := by simpa using f2
    refine ⟨setBlock w b (.map (es.modify j fun e => { e with key := ek k, val := em a }) c), ?_, Bel.block1 _ _, _, _, block1_same h1 _, stamped_modify h2 _ _ (fun _ _ => rfl) (fun x _ hx => ?_), ?_⟩
    · have hk : (Instr.keyThatStays (ek k) (ek k)).run P w = .ok (ek k) w := MapKept.run_keyThatStays (he.key k)
      simp [Instr.mapUpdate, run_underlying hT, MapKept.run_getObj_map h1, hck, run_findKey hK f1, f2', f3, hk, run_setObj_map _ h1, setBlock]
    · rw [f2'] at hx
      obtain rfl : e = x := by simpa using hx
      exact f3.symm
    · rw [entM_modify f2', h3, putM_at (keys_nd he h2 h3) f5]
      simp only [rowM, List.map_set]
theorem run_mdel {R : TypeId} (hT : P.underlying T = some (.map K E)) (hK : P.underlying K = some D) (he : KeyEnc D ek) (h : Mp ek em w b l) :
    ∃ w', (Builtin.delete_ #[T, K] R #[.map (some b), ek k]).run P w = .ok (.tuple #[]) w' ∧ Bel True (Only b) w w' ∧ Mp ek em w' b (delM l k) := by
  obtain ⟨es, c, h1, h2, h3⟩ := h
  have hck : ∀ e, (Instr.checkKey e 10000 K (ek k)).run P w = .ok () w := fun e => run_checkKey hK (he.key k) e 9999
  rcases find_cases he h3 k with ⟨f1, f2, f3⟩ | ⟨j, e, a0, f1, f2, f3, f4, f5⟩
  · refine ⟨setBlock w b (.map es c), ?_, Bel.block1 _ _, _, _, block1_same h1 _, h2, by rw [delM_no f2]; exact h3⟩
    simp [Builtin.delete_, run_underlying hT, MapKept.run_getObj_map h1, hck, run_findKey hK f1, run_setObj_map _ h1, setBlock]
  · have hj : j < es.size := by
      have := (List.getElem?_eq_some_iff.1 f2).1
      simpa using this
    refine ⟨setBlock w b (.map (es.eraseIdxIfInBounds j) c), ?_, Bel.block1 _ _, _, _, block1_same h1 _, stamped_erase h2 j, ?_⟩
    · simp [Builtin.delete_, run_underlying hT, MapKept.run_getObj_map h1, hck, run_findKey hK f1, run_setObj_map _ h1, setBlock]
    · rw [delM_at (keys_nd he h2 h3) f5]
      have e1 : (es.eraseIdxIfInBounds j).toList = es.toList.eraseIdx j := by
        unfold Array.eraseIdxIfInBounds
        rw [dif_pos hj]; simp
      rw [e1]
      unfold entM rowM at h3 ⊢
      rw [← map_eraseIdx', h3, map_eraseIdx']
theorem leftOf_all (es : Array MapEntry) : leftOf es #[] = es := by
  unfold leftOf
  rw [Array.filter_eq_self]
  intro x _; simp
theorem filter_born : ∀ {L : List MapEntry} {j : Nat} {e : MapEntry}, (L.map (·.born)).Nodup → L[j]? = some e → (L.filter fun x => !(x.born == e.born)) = L.eraseIdx j
  | [], _, _, _, h => by simp at h
  | x :: r, 0, e, hn, h => by
    simp at h
    subst h
    simp only [List.map_cons, List.nodup_cons] at hn
    have : (r.filter fun y => !(y.born == x.born)) = r := by
      rw [List.filter_eq_self]
      intro y hy
      have : y.born ≠ x.born := fun q => hn.1 (List.mem_map.2 ⟨y, hy, q⟩)
      simpa using this
    simp only [List.filter_cons, beq_self_eq_true, Bool.not_true, Bool.false_eq_true, if_false, List.eraseIdx_cons_zero]
    exact this
  | x :: r, j + 1, e, hn, h => by
    simp only [List.map_cons, List.nodup_cons] at hn
    have hr : r[j]? = some e := by simpa using h
    have hne : x.born ≠ e.born := fun q => hn.1 (List.mem_map.2 ⟨e, List.mem_of_getElem? hr, q.symm⟩)
    have := filter_born hn.2 hr
    simp [hne, this]
theorem leftOf_push (es : Array MapEntry) (seen : Array Nat) (n : Nat) : (leftOf es (seen.push n)).toList = (leftOf es seen).toList.filter fun x => !(x.born == n) := by
  unfold leftOf
  simp only [Array.toList_filter, List.filter_filter]
  refine List.filter_congr fun x _ => ?_
  have : (seen.push n).contains x.born = (seen.contains x.born || x.born == n) := by
    rw [Bool.eq_iff_iff]; simp
  rw [this, Bool.not_or, Bool.and_comm]
theorem perm_erase {β : Type} : ∀ {l : List β} {j : Nat} {p : β}, l[j]? = some p → l.Perm (p :: l.eraseIdx j)
  | [], _, _, h => by simp at h
  | x :: r, 0, p, h => by simp at h; subst h; simp
  | x :: r, j + 1, p, h => by
    have := perm_erase (l := r) (j := j) (p := p) (by simpa using h)
    exact (this.cons x).trans (List.Perm.swap p x _)
theorem It.start {es : Array MapEntry} {c : Nat} (h1 : w.heap[b]? = some (.map es c)) (h2 : Stamped es c) (h3 : entM es.toList = rowM ek em l) : It ek em (w.alloc (.mapIter (some b) c #[] c)) w.heap.size b l l none := by
  have hl := (Array.getElem?_eq_some_iff.1 h1).1
  exact ⟨es, c, #[], by rw [heap_alloc_old w _ hl]; exact h1, h2, h3, heap_alloc_new w _, by rw [leftOf_all]; exact h3, fun p h => by cases h⟩
/-- A step: nothing is left, or one of those that are left comes, whichever. -/
theorem run_step {ty : TypeId} (h : It ek em w r b l left cur) (hrb : r ≠ b) :
    (left = [] ∧ (Instr.next (.pointer (some ⟨r, 0, none⟩)) false ty).run P w = .ok (.tuple #[.bool false]) w) ∨
    ∃ p left' w', left.Perm (p :: left') ∧ (Instr.next (.pointer (some ⟨r, 0, none⟩)) false ty).run P w = .ok (.tuple #[.bool true, ek p.1, em p.2]) w' ∧ Bel True (Only r) w w' ∧ It ek em w' r b l left' (some p) := by
  obtain ⟨es, c, seen, h1, h2, h3, h4, h5, h6⟩ := h
  rcases run_next_at (P := P) w ty r b c c seen es c h4 h1 h2.1 (Nat.le_refl _) with ⟨g1, g2⟩ | ⟨e, g1, w1, g2, g3⟩
  · refine .inl ⟨?_, g2⟩
    have : (leftOf es seen).toList.length = left.length := by simpa [entM, rowM] using congrArg List.length h5
    rw [Array.length_toList, g1] at this
    exact List.eq_nil_of_length_eq_zero this.symm
  · right
    obtain ⟨j, hj⟩ := List.getElem?_of_mem g1
    obtain ⟨p, hp, e1, e2⟩ := ent_get h5 hj
    have hsub : (leftOf es seen).toList.Sublist es.toList := by
      unfold leftOf; rw [Array.toList_filter]; exact List.filter_sublist
    have hnd : ((leftOf es seen).toList.map (·.born)).Nodup := (hsub.map _).nodup h2.2.1
    refine ⟨p, left.eraseIdx j, setBlock w1 r (.mapIter (some b) c (seen.push e.born) c), ?_, by rw [g3, e1, e2], ?_, ?_⟩
    · exact perm_erase hp
    · have x1 : Bel True (Only r) w w1 := by
        rcases g2 with rfl | rfl
        · exact Bel.refl _ _
        · exact (Ext.drew w).mono fun _ _ h => h.elim
      exact x1.same (Bel.block1 (β := True) w1 _)
    · have hb1 : w1.heap = w.heap := by rcases g2 with rfl | rfl <;> rfl
      refine ⟨es, c, seen.push e.born, ?_, h2, h3, ?_, ?_, ?_⟩
      · have := (Bel.block1 (β := True) (b := r) w1 (.mapIter (some b) c (seen.push e.born) c)).block b (by rw [hb1]; exact (Array.getElem?_eq_some_iff.1 h1).1) (fun q => hrb q.symm)
        rw [this, hb1]; exact h1
      · exact block1_same (by rw [hb1]; exact h4) _
      · rw [leftOf_push, filter_born hnd hj]
        unfold entM rowM at h5 ⊢
        rw [← map_eraseIdx', h5, map_eraseIdx']
      · rintro q hq
        obtain rfl : p = q := by simpa using hq
        exact ⟨e, hsub.subset g1, by rw [e1, e2], seen, rfl⟩
theorem run_cur {p : κ × α} (h : It ek em w r b l left (some p)) : (Instr.entry (.pointer (some ⟨r, 0, none⟩))).run P w = .ok (.tuple #[ek p.1, em p.2]) w := by
  obtain ⟨es, c, seen, h1, h2, h3, h4, h5, h6⟩ := h
  obtain ⟨e, he, h7, s0, h8⟩ := h6 p rfl
  subst h8
  have := run_entry_at (P := P) w r b c s0 es c e h4 h1 he h2.2.1
  rw [this]
  simp only [Prod.mk.injEq] at h7
  rw [h7.1, h7.2]
end
section
variable {P : Program} {n : Nat} {Q : Fr → World → Prop} {fr : Fr} {ops : Array Oper} {rest : List Oper} {d : Option Nat} {t : TypeId} {ps : String} {af : Array Edge} {T K E : TypeId} {D : TypeDesc} {k : κ} {a : α} {x y z : Operand}
theorem Rg_mput (hd : dstOk n d = true) (hT : P.underlying T = some (.map K E)) (hK : P.underlying K = some D) (he : KeyEnc D ek) (hx : ev fr x = .map (some b)) (hy : ev fr y = ek k) (hz : ev fr z = em a) (h : Mp ek em w b l)
    (hk : ∀ w', Bel True (Only b) w w' → Mp ek em w' b (putM l k a) → Rg P n ops rest Q (fr.put d undef) w') : Rg P n ops (⟨d, .mapUpdate T x y z, t, ps, af, none⟩ :: rest) Q fr w := by
  obtain ⟨w', h1, h2, h3⟩ := run_mput (P := P) (k := k) (a := a) hT hK he h
  refine Rg_skip hd (w' := w') ?_ (hk w' h2 h3)
  simp [execOp, hx, hy, hz, h1]
theorem Rg_mins (hd : dstOk n d = true) (hT : P.underlying T = some (.map K E)) (hK : P.underlying K = some D) (he : KeyEnc D ek) (hx : ev fr x = .map (some b)) (hy : ev fr y = ek k) (hz : ev fr z = em a) (h : Mp ek em w b l)
    (hk : ∀ w', Bel True (Only b) w w' → Mp ek em w' b (putM l k a) → Rg P n ops rest Q (fr.put d undef) w') : Rg P n ops (⟨d, .insert T x y z, t, ps, af, none⟩ :: rest) Q fr w := by
  obtain ⟨w', h1, h2, h3⟩ := run_mput (P := P) (k := k) (a := a) hT hK he h
  refine Rg_skip hd (w' := w') ?_ (hk w' h2 h3)
  simp [execOp, hx, hy, hz, h1]
theorem Rg_mdel (hd : dstOk n d = true) (hT : P.underlying T = some (.map K E)) (hK : P.underlying K = some D) (he : KeyEnc D ek) (hx : ev fr x = .map (some b)) (hy : ev fr y = ek k) (h : Mp ek em w b l)
    (hk : ∀ w', Bel True (Only b) w w' → Mp ek em w' b (delM l k) → Rg P n ops rest Q (fr.put d (.tuple #[])) w') : Rg P n ops (⟨d, .call { callee := .builtin .delete, args := #[x, y], argTypes := #[T, K] }, t, ps, af, none⟩ :: rest) Q fr w := by
  obtain ⟨w', h1, h2, h3⟩ := run_mdel (P := P) (k := k) (R := t) hT hK he h
  refine Rg_run hd (w' := w') ?_ (hk w' h2 h3)
  simp [execOp, hx, hy, resolve, invoke, builtin, h1]
theorem Rg_mmk (ek : κ → Value) (em : α → Value) (hd : dstOk n d = true)
    (hk : ∀ b w', Ext True w w' → w.heap.size ≤ b → b < w'.heap.size → Mp ek em w' b [] → Rg P n ops rest Q (fr.put d (.map (some b))) w') : Rg P n ops (⟨d, .makeMap T none, t, ps, af, none⟩ :: rest) Q fr w := by
  refine Rg_run hd (v := .map (some w.heap.size)) (w' := w.alloc (.map #[] 0)) ?_ (hk _ _ (Ext.alloc _ _) (Nat.le_refl _) (by simp) ⟨#[], 0, heap_alloc_new w _, stamped_empty 0, rfl⟩)
  simp [execOp, Instr.makeMap, newObj, Sem.run]
theorem Rg_rng (hd : dstOk n d = true) (hT : P.underlying T = some (.map K E)) (hx : ev fr x = .map (some b)) (h : Mp ek em w b l)
    (hk : ∀ r w', Ext True w w' → w.heap.size ≤ r → r < w'.heap.size → It ek em w' r b l l none → Rg P n ops rest Q (fr.put d (.pointer (some ⟨r, 0, none⟩))) w') : Rg P n ops (⟨d, .range T x, t, ps, af, none⟩ :: rest) Q fr w := by
  obtain ⟨es, c, h1, h2, h3⟩ := h
  refine Rg_run hd (v := .pointer (some ⟨w.heap.size, 0, none⟩)) (w' := w.alloc (.mapIter (some b) c #[] c)) ?_ (hk _ _ (Ext.alloc _ _) (Nat.le_refl _) (by simp) (It.start h1 h2 h3))
  have := run_range_map (P := P) w T K E b es c hT h1
  simp [execOp, hx, this]
theorem Rg_next (hd : dstOk n d = true) (hx : ev fr x = .pointer (some ⟨r, 0, none⟩)) (h : It ek em w r b l left cur) (hrb : r ≠ b)
    (h0 : left = [] → Rg P n ops rest Q (fr.put d (.tuple #[.bool false])) w)
    (hk : ∀ p left' w', left.Perm (p :: left') → Bel True (Only r) w w' → It ek em w' r b l left' (some p) → Rg P n ops rest Q (fr.put d (.tuple #[.bool true, ek p.1, em p.2])) w') : Rg P n ops (⟨d, .next x false, t, ps, af, none⟩ :: rest) Q fr w := by
  rcases run_step (P := P) (ty := t) h hrb with ⟨g1, g2⟩ | ⟨p, left', w', g1, g2, g3, g4⟩
  · refine Rg_run hd (v := .tuple #[.bool false]) (w' := w) ?_ (h0 g1)
    simp [execOp, hx, g2]
  · refine Rg_run hd (v := .tuple #[.bool true, ek p.1, em p.2]) (w' := w') ?_ (hk p left' w' g1 g3 g4)
    simp [execOp, hx, g2]
theorem o_entry {g : Option (Nat × Bool)} {p : κ × α} (h : It ek em w r b l left (some p)) (hx : ev fr x = .pointer (some ⟨r, 0, none⟩)) : xop P fr w ⟨d, .entry x, t, ps, af, g⟩ = .ok (.value (.tuple #[ek p.1, em p.2])) w := by
  have := run_cur (P := P) h
  simp [xop, execOp, hx, this]
theorem o_meqnil {g : Option (Nat × Bool)} {U : TypeId} (hT : P.underlying T = some (.map K E)) (hx : ev fr x = .map (some b)) (hy : ev fr y = .map none) : xop P fr w ⟨d, .binOp .eql T x y U, t, ps, af, g⟩ = .ok (.value (.bool false)) w := by
  have := run_eql_map_nil (P := P) w T K E (some b) hT
  simp only [xop, execOp, hx, hy, eqGuard]
  simp [this]
theorem o_mkif {g : Option (Nat × Bool)} {v : Value} {U : TypeDesc} (hT : P.underlying T = some U) (hU : (match U with | .interface _ => true | _ => false) = false) (hx : ev fr x = v) : xop P fr w ⟨d, .makeInterface T x, t, ps, af, g⟩ = .ok (.value (.iface T v)) w := by
  cases U <;> simp_all [xop, execOp, Instr.makeInterface, run_underlying hT]
end
end
end Go.Lx
