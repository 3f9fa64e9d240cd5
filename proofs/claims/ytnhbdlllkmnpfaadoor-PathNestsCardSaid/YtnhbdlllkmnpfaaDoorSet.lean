/- Sets of texts: maps whose every value is true; pointers to what holds one. Nothing of a program stands here. -/
import Derived.Test.YtnhbdlllkmnpfaaDoorMap
import Derived.Test.YtnhbdlllkmnpfaaDoorPure7
import Derived.Laws.Pointers
namespace Go.Lx
open Go Go.RowKit Go.MapKept Go.ChangeMaps
set_option linter.unusedSimpArgs false
set_option linter.unusedVariables false
set_option linter.unnecessarySimpa false
set_option linter.unusedSectionVars false
def tt (l : List Str) : List (Str × Bool) := l.map fun s => (s, true)
/-- Block b is the set l, in the order in which it was filled. -/
def Ms (w : World) (b : Nat) (l : List Str) : Prop := Mp str Value.bool w b (tt l)
def Is' (w : World) (r b : Nat) (l left : List Str) (cur : Option Str) : Prop := It str Value.bool w r b (tt l) (tt left) (cur.map fun s => (s, true))
section
variable {w w' : World} {b r : Nat} {l left : List Str} {cur : Option Str}
theorem Ms.lt (h : Ms w b l) : b < w.heap.size := Mp.lt h
theorem Ms.keep {γ : Prop} {D : Nat → Prop} (h : Ms w b l) (x : Bel γ D w w') (hd : ¬ D b) : Ms w' b l := Mp.keep h x hd
theorem Ms.ext {γ : Prop} (h : Ms w b l) (x : Ext γ w w') : Ms w' b l := Mp.ext h x
theorem Is'.lt (h : Is' w r b l left cur) : r < w.heap.size := It.lt h
theorem Is'.ms (h : Is' w r b l left cur) : Ms w b l := It.mp h
theorem Is'.keep {γ : Prop} {D : Nat → Prop} (h : Is' w r b l left cur) (x : Bel γ D w w') (hd : ¬ D r) (hd' : ¬ D b) : Is' w' r b l left cur := It.keep h x hd hd'
theorem Is'.ext {γ : Prop} (h : Is' w r b l left cur) (x : Ext γ w w') : Is' w' r b l left cur := It.ext h x
def insS (l : List Str) (p : Str) : List Str := if l.any (fun q => p == q) then l else l ++ [p]
theorem foldS_succ {m l : List Str} {k : Nat} (h : k < m.length) : (m.take (k + 1)).foldl insS l = insS ((m.take k).foldl insS l) (m.getD k []) := by
  rw [List.take_succ_eq_append_getElem h, List.foldl_append]
  simp [List.getD, h]
def addT (l : List Str) (p : Str) : List Str := (ancS p).foldl insS (insS l p)
/-- r is l in the order of paths. -/
def Srt (r l : List Str) : Prop := r.Perm l ∧ r.Pairwise (fun x y => cmpP x y ≤ 0)
theorem cmpP_eq {x y : Str} (hx : splitOk x = true) (hy : splitOk y = true) (h1 : cmpP x y ≤ 0) (h2 : cmpP y x ≤ 0) : x = y := by
  have e1 : cmpP x y = cmpL (splitL x) (splitL y) := by unfold cmpP; rw [hx, hy]; rfl
  have e2 : cmpP y x = cmpL (splitL y) (splitL x) := by unfold cmpP; rw [hx, hy]; rfl
  have := cmpL_is.anti (splitL x) (splitL y)
  exact split_inj hx hy ((cmpL_is.eq _ _).1 (by omega))
theorem Srt.uniq {r s l : List Str} (hv : ∀ x ∈ l, splitOk x = true) (h1 : Srt r l) (h2 : Srt s l) : r = s :=
  List.Perm.eq_of_pairwise (fun a b ha hb h k => cmpP_eq (hv a (h1.1.mem_iff.1 ha)) (hv b (h2.1.mem_iff.1 hb)) h k) h1.2 h2.2 (h1.1.trans h2.1.symm)
def belowT (t : List Str) (p : Str) : List Str := if (t.any fun q => p == q) = true then t.filter fun x => withinS x p else []
def childT (t : List Str) (p : Str) : List Str := if (t.any fun q => p == q) = true then t.filter fun x => (parentS x).2 && (parentS x).1 == p else []
theorem belowT_no {t : List Str} {p : Str} (h : (t.any fun q => p == q) = false) : Srt [] (belowT t p) := by
  rw [belowT, if_neg (by rw [h]; simp)]; exact ⟨List.Perm.refl _, List.Pairwise.nil⟩
theorem childT_no {t : List Str} {p : Str} (h : (t.any fun q => p == q) = false) : Srt [] (childT t p) := by
  rw [childT, if_neg (by rw [h]; simp)]; exact ⟨List.Perm.refl _, List.Pairwise.nil⟩
def remE (t : List Str) (p : Str) : Int := if !splitOk p then 6 else if p == [47] then 1 else if !(t.any fun q => p == q) then 4 else if 1 < (belowT t p).length then 7 else 0
section
variable {t : List Str} {p : Str}
theorem remE_a (h : splitOk p = false) : remE t p = 6 := by rw [remE, if_pos (by rw [h]; rfl)]
theorem remE_b (h : splitOk p = true) (h2 : (p == [47]) = true) : remE t p = 1 := by rw [remE, if_neg (by rw [h]; simp), if_pos h2]
theorem remE_c (h : splitOk p = true) (h2 : (p == [47]) = false) (h3 : (t.any fun q => p == q) = false) : remE t p = 4 := by rw [remE, if_neg (by rw [h]; simp), if_neg (by rw [h2]; simp), if_pos (by rw [h3]; rfl)]
theorem remE_d (h : splitOk p = true) (h2 : (p == [47]) = false) (h3 : (t.any fun q => p == q) = true) (h4 : 1 < (belowT t p).length) : remE t p = 7 := by rw [remE, if_neg (by rw [h]; simp), if_neg (by rw [h2]; simp), if_neg (by rw [h3]; simp), if_pos h4]
theorem remE_e (h : splitOk p = true) (h2 : (p == [47]) = false) (h3 : (t.any fun q => p == q) = true) (h4 : ¬ 1 < (belowT t p).length) : remE t p = 0 := by rw [remE, if_neg (by rw [h]; simp), if_neg (by rw [h2]; simp), if_neg (by rw [h3]; simp), if_neg h4]
end
theorem wh_perm {sn lf lf' t : List Str} {p : Str} (h : (sn ++ lf).Perm t) (h2 : lf.Perm (p :: lf')) : ((sn ++ [p]) ++ lf').Perm t := by
  refine List.Perm.trans ?_ h
  rw [List.append_assoc]
  exact List.Perm.append_left sn h2.symm
theorem wh_mem {sn lf lf' t : List Str} {p : Str} (h : (sn ++ lf).Perm t) (h2 : lf.Perm (p :: lf')) : p ∈ t := h.mem_iff.1 (List.mem_append_right _ (h2.mem_iff.2 (by simp)))
theorem wh_one {q : Str → Bool} {p : Str} (h : q p = true) : [p].filter q = [p] := by simp [h]
theorem wh_non {q : Str → Bool} {p : Str} (h : q p = false) : [p].filter q = [] := by simp [h]
theorem tt_key (l : List Str) : (tt l).map (·.1) = l := by simp [tt, List.map_map, Function.comp_def]
theorem Ms.nd (h : Ms w b l) : l.Nodup := by
  have := Mp.nd str_key h
  rwa [tt_key] at this
theorem get_tt (l : List Str) (p : Str) : (getM (tt l) p).getD false = l.any fun q => p == q := by
  unfold getM tt
  rw [List.find?_map]
  cases h : l.find? ((fun q => decide (q.1 = p)) ∘ fun s => (s, true)) with
  | none =>
    have : l.any (fun q => p == q) = false := by
      rw [List.any_eq_false]
      intro q hq e
      have := List.find?_eq_none.1 h q hq
      simp at this e
      exact this e.symm
    rw [this]; rfl
  | some q =>
    have h1 := List.mem_of_find?_eq_some h
    have h2 := List.find?_some h
    have : l.any (fun q => p == q) = true := by
      rw [List.any_eq_true]
      exact ⟨q, h1, by simp at h2; simp [h2]⟩
    rw [this]; rfl
theorem has_tt (l : List Str) (p : Str) : (getM (tt l) p).isSome = l.any fun q => p == q := by
  have h := get_tt l p
  cases e : getM (tt l) p with
  | none => rw [e] at h; simpa using h
  | some a =>
    cases a with
    | true => rw [e] at h; simpa using h
    | false =>
      exfalso
      unfold getM tt at e
      rw [List.find?_map] at e
      cases h : l.find? ((fun q => decide (q.1 = p)) ∘ fun s => (s, true)) with
      | none => rw [h] at e; simp at e
      | some q => rw [h] at e; simp at e
theorem put_tt (l : List Str) (p : Str) : putM (tt l) p true = tt (insS l p) := by
  unfold putM insS
  have e : ((tt l).any fun q => decide (q.1 = p)) = l.any fun q => p == q := by
    unfold tt
    rw [List.any_map]
    congr 1
    funext q
    simp only [Function.comp]
    rw [Bool.eq_iff_iff, decide_eq_true_eq, beq_iff_eq]; exact eq_comm
  rw [e]
  split
  · unfold tt
    rw [List.map_map]
    refine List.map_congr_left fun q _ => ?_
    simp only [Function.comp]
    split
    · rename_i h; rw [h]
    · rfl
  · simp [tt]
theorem del_tt (l : List Str) (p : Str) : delM (tt l) p = tt (l.filter fun q => q != p) := by
  unfold delM tt
  rw [List.filter_map]
  congr 1
  refine List.filter_congr fun q _ => ?_
  simp only [Function.comp, bne]
  congr 1
  rw [Bool.eq_iff_iff, decide_eq_true_eq, beq_iff_eq]
section
variable {P : Program} {fr : Fr} {d : Option Nat} {t : TypeId} {ps : String} {af : Array Edge} {g : Option (Nat × Bool)} {x y z : Operand} {T K E U : TypeId} {k : Str}
theorem o_slook (hT : P.underlying T = some (.map K E)) (hK : P.underlying K = some .string) (hz : ∀ w, (zeroValue E).run P w = .ok (.bool false) w) (h : Ms w b l) (hx : ev fr x = .map (some b)) (hy : ev fr y = str k) :
    xop P fr w ⟨d, .lookup T x y false, t, ps, af, g⟩ = .ok (.value (.bool (l.any fun q => k == q))) w := by
  have := o_lookup (d := d) (t := t) (ps := ps) (af := af) (g := g) (ok := false) (z0 := false) hT hK str_key hz h hx hy
  rw [this, get_tt]; rfl
theorem o_slook2 (hT : P.underlying T = some (.map K E)) (hK : P.underlying K = some .string) (hz : ∀ w, (zeroValue E).run P w = .ok (.bool false) w) (h : Ms w b l) (hx : ev fr x = .map (some b)) (hy : ev fr y = str k) :
    xop P fr w ⟨d, .lookup T x y true, t, ps, af, g⟩ = .ok (.value (.tuple #[.bool (l.any fun q => k == q), .bool (l.any fun q => k == q)])) w := by
  have := o_lookup (d := d) (t := t) (ps := ps) (af := af) (g := g) (ok := true) (z0 := false) hT hK str_key hz h hx hy
  rw [this, get_tt, has_tt]; rfl
theorem o_slen7 (hT : P.underlying T = some (.map K E)) (h : Ms w b l) (hx : ev fr x = .map (some b)) :
    xop P fr w ⟨d, .call { callee := .builtin .len, args := #[x], argTypes := #[T] }, t, ps, af, g⟩ = .ok (.value (.int .i64 (l.length : Int))) w := by
  have := o_mlen (d := d) (t := t) (ps := ps) (af := af) (g := g) (U := T) (R := T) hT h hx
  rw [this]; simp [tt]
theorem o_nilc {v : Addr} (hx : ev fr x = .pointer (some v)) : xop P fr w ⟨d, .nilCheck x, t, ps, af, g⟩ = .ok (.value (.pointer (some v))) w := by
  simp [xop, execOp, hx]
theorem o_tassert {v : Value} {D : TypeDesc} (hT : P.underlying T = some D) (hD : (match D with | .interface _ => true | _ => false) = false) (hx : ev fr x = .iface T v) : xop P fr w ⟨d, .typeAssert x U T false, t, ps, af, g⟩ = .ok (.value v) w := by
  cases D <;> simp_all [xop, execOp, Instr.typeAssert, run_underlying hT]
theorem pointee_of {tp : TypeId} (hT : P.underlying T = some (.pointer tp)) : P.underlying T = some (.pointer (P.pointee T)) := by
  have : P.pointee T = tp := by unfold Program.pointee; rw [hT]
  rw [this]; exact hT
theorem o_peq {a : Option Addr} {tp : TypeId} (hT : P.underlying T = some (.pointer tp)) (hx : ev fr x = .pointer a) (hy : ev fr y = .pointer none) : xop P fr w ⟨d, .binOp .eql T x y U, t, ps, af, g⟩ = .ok (.value (.bool a.isNone)) w := by
  have := run_eql_pointer_nil (P := P) (w := w) T a (pointee_of hT)
  simp only [xop, execOp, hx, hy, eqGuard]
  simp [this]
theorem o_peqL {a : Addr} {tp : TypeId} (hT : P.underlying T = some (.pointer tp)) (hx : ev fr x = .pointer none) (hy : ev fr y = .pointer (some a)) : xop P fr w ⟨d, .binOp .eql T x y U, t, ps, af, g⟩ = .ok (.value (.bool false)) w := by
  have e0 : ∀ d : Nat, (Op.equalIn (d + 1) T (.pointer none) (.pointer (some a))).run P w = .ok false w := fun d => by
    simp [Op.equalIn, run_underlying hT]
  have e : (Op.equal T (.pointer none) (.pointer (some a))).run P w = .ok false w := e0 9999
  have : (binOp .eql T (.pointer none) (.pointer (some a))).run P w = .ok (.bool false) w := by
    simp only [binOp]
    simp [e]
  simp only [xop, execOp, hx, hy, eqGuard]
  simp [this]
theorem o_pne {a : Option Addr} {tp : TypeId} (hT : P.underlying T = some (.pointer tp)) (hx : ev fr x = .pointer a) (hy : ev fr y = .pointer none) : xop P fr w ⟨d, .binOp .neq T x y U, t, ps, af, g⟩ = .ok (.value (.bool !a.isNone)) w := by
  have := run_neq_pointer_nil (P := P) (w := w) T a (pointee_of hT)
  simp only [xop, execOp, hx, hy, eqGuard]
  simp [this]
theorem o_scur {p : Str} (h : Is' w r b l left (some p)) (hx : ev fr x = .pointer (some ⟨r, 0, none⟩)) : xop P fr w ⟨d, .entry x, t, ps, af, g⟩ = .ok (.value (.tuple #[str p, .bool true])) w := o_entry h hx
end
section
variable {P : Program} {n : Nat} {Q : Fr → World → Prop} {fr : Fr} {ops : Array Oper} {rest : List Oper} {d : Option Nat} {t : TypeId} {ps : String} {af : Array Edge} {T K E : TypeId} {k : Str} {x y z : Operand}
theorem Rg_sput (hd : dstOk n d = true) (hT : P.underlying T = some (.map K E)) (hK : P.underlying K = some .string) (hx : ev fr x = .map (some b)) (hy : ev fr y = str k) (hz : ev fr z = .bool true) (h : Ms w b l)
    (hk : ∀ w', Bel True (Only b) w w' → Ms w' b (insS l k) → Rg P n ops rest Q (fr.put d undef) w') : Rg P n ops (⟨d, .mapUpdate T x y z, t, ps, af, none⟩ :: rest) Q fr w :=
  Rg_mput (a := true) hd hT hK str_key hx hy hz h fun w' x h => hk w' x (by unfold Ms; rw [← put_tt]; exact h)
theorem Rg_sins (hd : dstOk n d = true) (hT : P.underlying T = some (.map K E)) (hK : P.underlying K = some .string) (hx : ev fr x = .map (some b)) (hy : ev fr y = str k) (hz : ev fr z = .bool true) (h : Ms w b l)
    (hk : ∀ w', Bel True (Only b) w w' → Ms w' b (insS l k) → Rg P n ops rest Q (fr.put d undef) w') : Rg P n ops (⟨d, .insert T x y z, t, ps, af, none⟩ :: rest) Q fr w :=
  Rg_mins (a := true) hd hT hK str_key hx hy hz h fun w' x h => hk w' x (by unfold Ms; rw [← put_tt]; exact h)
theorem Rg_sdel (hd : dstOk n d = true) (hT : P.underlying T = some (.map K E)) (hK : P.underlying K = some .string) (hx : ev fr x = .map (some b)) (hy : ev fr y = str k) (h : Ms w b l)
    (hk : ∀ w', Bel True (Only b) w w' → Ms w' b (l.filter fun q => q != k) → Rg P n ops rest Q (fr.put d (.tuple #[])) w') : Rg P n ops (⟨d, .call { callee := .builtin .delete, args := #[x, y], argTypes := #[T, K] }, t, ps, af, none⟩ :: rest) Q fr w :=
  Rg_mdel hd hT hK str_key hx hy h fun w' x h => hk w' x (by unfold Ms; rw [← del_tt]; exact h)
theorem Rg_smk (hd : dstOk n d = true)
    (hk : ∀ b w', Ext True w w' → w.heap.size ≤ b → b < w'.heap.size → Ms w' b [] → Rg P n ops rest Q (fr.put d (.map (some b))) w') : Rg P n ops (⟨d, .makeMap T none, t, ps, af, none⟩ :: rest) Q fr w :=
  Rg_mmk str Value.bool hd hk
theorem Rg_srng (hd : dstOk n d = true) (hT : P.underlying T = some (.map K E)) (hx : ev fr x = .map (some b)) (h : Ms w b l)
    (hk : ∀ r w', Ext True w w' → w.heap.size ≤ r → r < w'.heap.size → Is' w' r b l l none → Rg P n ops rest Q (fr.put d (.pointer (some ⟨r, 0, none⟩))) w') : Rg P n ops (⟨d, .range T x, t, ps, af, none⟩ :: rest) Q fr w :=
  Rg_rng hd hT hx h hk
theorem Rg_sclone {f : FuncId} {x : Operand} {tys : Array TypeId} (hd : dstOk n d = true) (hc : ∀ (b : Nat) (es : Array MapEntry) (c : Nat) (w : World), w.heap[b]? = some (.map es c) → (callFunc f #[.iface T (.map (some b))]).run P w = .ok (.value (.iface T (.map (some w.heap.size)))) (w.alloc (.map es c)))
    (hx : ev fr x = .iface T (.map (some b))) (h : Ms w b l) (hk : ∀ b' w', Ext True w w' → w.heap.size ≤ b' → b' < w'.heap.size → Ms w' b' l → Rg P n ops rest Q (fr.put d (.iface T (.map (some b')))) w') :
    Rg P n ops (⟨d, .call { callee := .value (.func f), args := #[x], argTypes := tys }, t, ps, af, none⟩ :: rest) Q fr w := by
  obtain ⟨es, c, h1, h2, h3⟩ := h
  refine Rg_run hd (v := .iface T (.map (some w.heap.size))) (w' := w.alloc (.map es c)) ?_ (hk _ _ (Ext.alloc _ _) (Nat.le_refl _) (by simp) ⟨es, c, heap_alloc_new w _, h2, h3⟩)
  have e : ev fr (.func f) = .func (.func f) #[] #[] := rfl
  simp [execOp, resolve, e, hx, Deferred.ofValue, invoke, hc b es c w h1]
theorem tt_perm {left : List Str} {p : Str × Bool} {left' : List (Str × Bool)} (h : (tt left).Perm (p :: left')) : p = (p.1, true) ∧ left' = tt (left'.map (·.1)) ∧ left.Perm (p.1 :: left'.map (·.1)) := by
  have hm : ∀ q ∈ p :: left', q.2 = true := by
    intro q hq
    have := h.mem_iff.2 hq
    obtain ⟨s, _, rfl⟩ := List.mem_map.1 this
    rfl
  refine ⟨?_, ?_, ?_⟩
  · have := hm p (by simp)
    obtain ⟨a, c⟩ := p
    simp only at this
    rw [this]
  · unfold tt
    rw [List.map_map]
    conv => lhs; rw [← List.map_id left']
    refine List.map_congr_left fun q hq => ?_
    have := hm q (by simp [hq])
    obtain ⟨a, c⟩ := q
    simp only at this
    simp [this]
  · have := h.map (·.1)
    rwa [tt_key, List.map_cons] at this
theorem Rg_snext (hd : dstOk n d = true) (hx : ev fr x = .pointer (some ⟨r, 0, none⟩)) (h : Is' w r b l left cur) (hrb : r ≠ b)
    (h0 : left = [] → Rg P n ops rest Q (fr.put d (.tuple #[.bool false])) w)
    (hk : ∀ p left' w', left.Perm (p :: left') → Bel True (Only r) w w' → Is' w' r b l left' (some p) → Rg P n ops rest Q (fr.put d (.tuple #[.bool true, str p, .bool true])) w') : Rg P n ops (⟨d, .next x false, t, ps, af, none⟩ :: rest) Q fr w := by
  refine Rg_next hd hx h hrb (fun e => h0 (by unfold tt at e; simpa using e)) fun p left' w' hp x hi => ?_
  obtain ⟨e1, e2, e3⟩ := tt_perm hp
  have := hk p.1 (left'.map (·.1)) w' e3 x (by unfold Is'; rw [← e2]; simp only [Option.map_some]; rw [← e1]; exact hi)
  have e4 : (p.2 : Bool) = true := by rw [e1]
  rw [e4]; exact this
end
end
end Go.Lx
