/- Several texts in one file. -/
import Derived.Test.YtdnkjdmfnmdpdaaGreatDoorPure11g
import Derived.Test.YtdnkjdmfnmdpdaaGreatDoorOwn
import Derived.Test.YtdnkjdmfnmdpdaaGreatDoorNorm
import Derived.Maps.RangeRun
import Derived.WalkSpells
set_option linter.unusedSimpArgs false
set_option linter.unusedVariables false
set_option linter.unnecessarySimpa false
set_option linter.unusedSectionVars false
/- Books of grants: what the program and the reference make of them. Nothing of a program stands here. -/
namespace Go.Lx
open Go
structure Ent where
 r : Int
 p : Perm
 deriving DecidableEq
def encE (e : Ent) : List Value := .int .i64 e.r :: encP e.p
theorem encE_ok : EncOk encE 4 := ⟨by decide, fun _ => rfl, fun x u hu => by
 simp [encE, encP] at hu
 rcases hu with rfl | rfl | rfl | rfl <;> rfl⟩
def ez : Ent := ⟨0, pz⟩
def cmpI (a b : Int) : Int := if a < b then -1 else if b < a then 1 else 0
def cmpE (a b : Ent) : Int := if a.r != b.r then cmpI a.r b.r else cmpM a.p b.p
theorem cmpI_is : IsCmp cmpI := by
 refine ⟨fun a b => ?_, fun a b => ?_, fun a b c => ?_⟩ <;> unfold cmpI <;> (repeat' split) <;> omega
def Ve (e : Ent) : Prop := 1 ≤ e.r ∧ e.r ≤ 63 ∧ Vp e.p
abbrev VE := { e : Ent // Ve e }
def keyE (e : VE) : Int × VP := (e.1.r, ⟨e.1.p, e.2.2.2⟩)
theorem cmpE_lex (x y : VE) : cmpE x.1 y.1 = lex cmpI (fun a b : VP => cmpM a.1 b.1) (keyE x) (keyE y) := by
 show (if x.1.r != y.1.r then cmpI x.1.r y.1.r else cmpM x.1.p y.1.p) = if cmpI x.1.r y.1.r != 0 then cmpI x.1.r y.1.r else cmpM x.1.p y.1.p
 have e := cmpI_is.eq x.1.r y.1.r
 by_cases h : x.1.r = y.1.r
 ·rw [if_neg (by simpa using h), if_neg (by simpa using e.2 h)]
 ·rw [if_pos (by simpa using h), if_pos (by simpa using fun q => h (e.1 q))]
theorem cmpE_is : IsCmp fun a b : VE => cmpE a.1 b.1 := by
 have h := (lex_is cmpI_is cmpV_is).map keyE (fun a b h => by
  have h1 := congrArg Prod.fst h
  have h2 := congrArg Prod.snd h
  apply Subtype.ext
  obtain ⟨⟨r, p⟩, ha⟩ := a
  obtain ⟨⟨s, q⟩, hb⟩ := b
  simp only [keyE, Subtype.mk.injEq] at h1 h2
  show (⟨r, p⟩ : Ent) = ⟨s, q⟩
  rw [h1, h2])
 have e : (fun a b : VE => cmpE a.1 b.1) = fun a b => lex cmpI (fun a b : VP => cmpM a.1 b.1) (keyE a) (keyE b) := by
  funext a b; exact cmpE_lex a b
 rw [e]; exact h
theorem cmpE_eq {a b : Ent} (ha : Ve a) (hb : Ve b) : cmpE a b = 0 ↔ a = b := by
 rw [cmpE_is.eq ⟨a, ha⟩ ⟨b, hb⟩]; simp
theorem cmpE_anti {a b : Ent} (ha : Ve a) (hb : Ve b) : cmpE b a = - cmpE a b := cmpE_is.anti ⟨a, ha⟩ ⟨b, hb⟩
theorem cmpE_tr {a b c : Ent} (ha : Ve a) (hb : Ve b) (hc : Ve c) (h : cmpE a b < 0) (k : cmpE b c < 0) : cmpE a c < 0 := cmpE_is.tr ⟨a, ha⟩ ⟨b, hb⟩ ⟨c, hc⟩ h k
structure OkG (m : List Ent) : Prop where
 asc : m.Pairwise (fun x y => cmpE x y < 0)
 ve : ∀ e ∈ m, Ve e
 len : m.length ≤ 1000
theorem OkG.nil : OkG [] := ⟨List.Pairwise.nil, by simp, by simp⟩
theorem asc_get {m : List Ent} (h : m.Pairwise (fun x y => cmpE x y < 0)) {i j : Nat} (hij : i < j) (hj : j < m.length) : cmpE (m.getD i ez) (m.getD j ez) < 0 := by
 have := List.pairwise_iff_getElem.1 h i j (by omega) hj hij
 simpa [List.getD, show i < m.length by omega, hj] using this
structure BsG (m : List Ent) (x : Ent) (i j : Nat) : Prop where
 le : i ≤ j
 len : j ≤ m.length
 low : ∀ t, t < i → cmpE (m.getD t ez) x < 0
 up : ∀ t, j ≤ t → t < m.length → 0 ≤ cmpE (m.getD t ez) x
theorem BsG.start (m : List Ent) (x : Ent) : BsG m x 0 m.length := ⟨Nat.zero_le _, Nat.le_refl _, fun t h => by omega, fun t h h2 => by omega⟩
section
variable {m : List Ent} {x : Ent} {i j : Nat} (h : BsG m x i j) (hm : OkG m) (hx : Ve x)
include h hm hx
theorem BsG.lo {k : Nat} (h1 : i ≤ k) (h2 : k < j) (hk : cmpE (m.getD k ez) x < 0) : BsG m x (k + 1) j := by
 have hl := h.len
 refine ⟨by omega, h.len, fun t ht => ?_, h.up⟩
 rcases Nat.lt_or_ge t k with h3 | h3
 ·exact cmpE_tr (hm.ve _ (gm (by omega))) (hm.ve _ (gm (by omega))) hx (asc_get hm.asc h3 (by omega)) hk
 ·obtain rfl : t = k := by omega
  exact hk
theorem BsG.hi {k : Nat} (h1 : i ≤ k) (h2 : k < j) (hk : ¬ cmpE (m.getD k ez) x < 0) : BsG m x i k := by
 have hl := h.len
 refine ⟨h1, by omega, h.low, fun t ht hl2 => ?_⟩
 rcases Nat.lt_or_ge k t with h3 | h3
 ·rcases Int.lt_or_le (cmpE (m.getD t ez) x) 0 with h4 | h4
  ·exact absurd (cmpE_tr (hm.ve _ (gm (by omega))) (hm.ve _ (gm (by omega))) hx (asc_get hm.asc h3 (by omega)) h4) hk
  ·exact h4
 ·obtain rfl : t = k := by omega
  omega
end
theorem BsG.uniq {m : List Ent} {x : Ent} {i j : Nat} (h : BsG m x i i) (k : BsG m x j j) : i = j := by
 have h1 := h.len
 have h2 := k.len
 rcases Nat.lt_trichotomy i j with q | q | q
 ·have a := k.low i q
  have b := h.up i (Nat.le_refl _) (by omega)
  omega
 ·exact q
 ·have a := h.low j q
  have b := k.up j (Nat.le_refl _) (by omega)
  omega
theorem getD_ex {m : List Ent} {e : Ent} (h : e ∈ m) : ∃ t, t < m.length ∧ m.getD t ez = e := by
 obtain ⟨t, ht, rfl⟩ := List.getElem_of_mem h
 exact ⟨t, ht, by simp [List.getD, ht]⟩
theorem BsG.fin {m : List Ent} {x : Ent} {i : Nat} (h : BsG m x i i) (hm : OkG m) (hx : Ve x) : (decide ((i : Int) < (m.length : Int)) && (cmpE (m.getD i ez) x == 0)) = decide (x ∈ m) := by
 rw [Bool.eq_iff_iff, Bool.and_eq_true, decide_eq_true_iff, decide_eq_true_iff, beq_iff_eq]
 constructor
 ·rintro ⟨h1, h2⟩
  have h1' : i < m.length := by omega
  have := (cmpE_eq (hm.ve _ (gm (z := ez) h1')) hx).1 h2
  rw [← this]; exact gm h1'
 ·intro hin
  obtain ⟨t, ht, e⟩ := getD_ex hin
  have h0 : cmpE (m.getD t ez) x = 0 := by rw [e]; exact (cmpE_eq hx hx).2 rfl
  rcases Nat.lt_trichotomy t i with h2 | h2 | h2
  ·have := h.low t h2; omega
  ·subst h2; exact ⟨by omega, h0⟩
  ·have h3 := h.up i (Nat.le_refl _) (by omega)
   have h4 := asc_get hm.asc h2 ht
   rw [e] at h4
   omega
theorem insGo_at {f : Ent → Ent → Int} {p : Ent} : ∀ {m : List Ent} {i : Nat}, i ≤ m.length → (∀ t, t < i → ¬ f p (m.getD t ez) < 0) → (i < m.length → f p (m.getD i ez) < 0) → insGo f p m = m.take i ++ [p] ++ m.drop i
 | [], i, h, _, _ => by
  obtain rfl : i = 0 := by simpa using h
  rfl
 | x :: r, 0, _, _, h2 => by
  have := h2 (by simp)
  rw [insGo, if_pos (by simpa using this)]; rfl
 | x :: r, i + 1, h, h1, h2 => by
  have h0 := h1 0 (by omega)
  rw [insGo, if_neg (by simpa using h0)]
  rw [insGo_at (i := i) (by simpa using h) (fun t ht => by simpa using h1 (t + 1) (by omega)) (fun hl => by simpa using h2 (by simp; omega))]
  rfl
theorem BsG.ins {m : List Ent} {x : Ent} {i : Nat} (h : BsG m x i i) (hm : OkG m) (hx : Ve x) (hn : x ∉ m) : m.take i ++ [x] ++ m.drop i = insGo cmpE x m := by
 refine (insGo_at h.len (fun t ht => ?_) (fun hl => ?_)).symm
 ·have h1 := h.low t ht
  have hl := h.len
  have h2 := cmpE_anti (hm.ve _ (gm (z := ez) (show t < m.length by omega))) hx
  omega
 ·have h1 := h.up i (Nat.le_refl _) hl
  have h2 := cmpE_anti (hm.ve _ (gm (z := ez) hl)) hx
  have h3 : cmpE (m.getD i ez) x ≠ 0 := fun e => hn (by rw [← (cmpE_eq (hm.ve _ (gm (z := ez) hl)) hx).1 e]; exact gm hl)
  omega
theorem insGo_lenG {α : Type} {f : α → α → Int} {p : α} : ∀ (m : List α), (insGo f p m).length = m.length + 1
 | [] => rfl
 | x :: r => by
  rw [insGo]; split
  ·rfl
  ·simp [insGo_lenG r]
theorem insGo_pwE {x : Ent} {m : List Ent} (hm : OkG m) (hx : Ve x) (hn : x ∉ m) : (insGo cmpE x m).Pairwise (fun x y => cmpE x y < 0) := by
 have ha := hm.asc
 have hv := hm.ve
 clear hm
 induction m with
 | nil => simp [insGo]
 | cons y r ih =>
  have hy := hv y (by simp)
  rw [insGo]
  rw [List.pairwise_cons] at ha
  split
  ·rename_i hlt
   rw [List.pairwise_cons, List.pairwise_cons]
   refine ⟨fun z hz => ?_, ha⟩
   rcases List.mem_cons.1 hz with rfl | hz
   ·exact hlt
   ·exact cmpE_tr hx hy (hv z (by simp [hz])) hlt (ha.1 z hz)
  ·rename_i hge
   rw [List.pairwise_cons]
   refine ⟨fun z hz => ?_, ih (fun h => hn (by simp [h])) ha.2 (fun e he => hv e (by simp [he]))⟩
   rcases insGo_mem.1 hz with rfl | hz
   ·have h1 := cmpE_anti hy hx
    have h2 : cmpE y z ≠ 0 := fun e => hn (by rw [← (cmpE_eq hy hx).1 e]; simp)
    omega
   ·exact ha.1 z hz
def grantR (m : List Ent) (e : Ent) : List Ent × Int := if e.r < 1 ∨ 63 < e.r then (m, 1) else if checkS e.p ≠ 0 then (m, checkS e.p) else if e ∈ m then (m, 5) else if 1000 ≤ m.length then (m, 14) else (insGo cmpE e m, 0)
def dropR (m : List Ent) (e : Ent) : List Ent × Int := if e.r < 1 ∨ 63 < e.r then (m, 1) else if e ∉ m then (m, 4) else (m.filter (· != e), 0)
theorem OkG.grant {m : List Ent} (h : OkG m) {e : Ent} (he : e.p.ok) : OkG (grantR m e).1 := by
 unfold grantR
 split
 ·exact h
 split
 ·exact h
 split
 ·exact h
 split
 ·exact h
 ·rename_i h1 h2 h3 h4
  have hv : Ve e := ⟨by omega, by omega, he, by omega⟩
  exact ⟨insGo_pwE h hv h3, fun x hx => (insGo_mem.1 hx).elim (fun q => q ▸ hv) (h.ve x), by rw [insGo_lenG]; omega⟩
theorem OkG.drop {m : List Ent} (h : OkG m) (e : Ent) : OkG (dropR m e).1 := by
 unfold dropR
 split
 ·exact h
 split
 ·exact h
 ·exact ⟨h.asc.filter _, fun x hx => h.ve x (List.mem_filter.1 hx).1, Nat.le_trans (List.length_filter_le _ _) h.len⟩
theorem ixE {m : List Ent} {e : Ent} : decide (ixOf (fun y => y == e) m < 0) = decide (e ∉ m) := by
 have h := ixOf_ge (fun y : Ent => y == e) m
 rw [Bool.eq_iff_iff] at h ⊢
 simp only [decide_eq_true_iff, List.any_eq_true, beq_iff_eq] at h ⊢
 constructor
 ·intro h1 h2
  have := h.2 ⟨e, h2, rfl⟩
  omega
 ·intro h1
  rcases Int.lt_or_le (ixOf (fun y : Ent => y == e) m) 0 with h2 | h2
  ·exact h2
  ·obtain ⟨y, hy, he⟩ := h.1 h2
   exact absurd (he ▸ hy) h1
def lessE (a b : Ent) : Bool := decide (cmpE a b < 0)
def insD (m : List Ent) (e : Ent) (k : Nat) : Bool := (m.take k).any (lessE e)
def insO (m : List Ent) (e : Ent) (k : Nat) : List Ent := if insD m e k then insGo cmpE e (m.take k) else m.take k
theorem insGo_snoc {f : Ent → Ent → Int} {p x : Ent} : ∀ (l : List Ent), insGo f p (l ++ [x]) = if l.any (fun y => decide (f p y < 0)) then insGo f p l ++ [x] else l ++ (if f p x < 0 then [p, x] else [x, p])
 | [] => by simp [insGo]
 | y :: l => by
  rw [List.cons_append, insGo, insGo, List.any_cons]
  by_cases h : f p y < 0
  ·simp [h]
  ·simp only [h, if_false, decide_false, Bool.false_or]
   rw [insGo_snoc l]
   split <;> simp
theorem insGo_none {f : Ent → Ent → Int} {p : Ent} : ∀ (l : List Ent), l.any (fun y => decide (f p y < 0)) = false → insGo f p l = l ++ [p]
 | [], _ => rfl
 | y :: l, h => by
  rw [List.any_cons, Bool.or_eq_false_iff] at h
  rw [insGo, if_neg (by simpa using h.1), insGo_none l h.2]; rfl
theorem takeE {m : List Ent} {k : Nat} (h : k < m.length) : m.take (k + 1) = m.take k ++ [m.getD k ez] := by
 rw [List.take_succ_eq_append_getElem h]; simp [List.getD, h]
theorem insD_succ {m : List Ent} {e : Ent} {k : Nat} (h : k < m.length) : insD m e (k + 1) = (insD m e k || lessE e (m.getD k ez)) := by
 unfold insD; rw [takeE h, List.any_append]; simp
theorem insO_len (m : List Ent) (e : Ent) (k : Nat) : (insO m e k).length ≤ m.length + 1 := by
 unfold insO
 split
 ·rw [insGo_lenG, List.length_take]; omega
 ·rw [List.length_take]; omega
theorem ins_yes {m : List Ent} {e : Ent} {k : Nat} (h : k < m.length) (hd : insD m e k = false) (hl : lessE e (m.getD k ez) = true) : insO m e (k + 1) = insO m e k ++ [e] ++ [m.getD k ez] ∧ insD m e (k + 1) = true := by
 have h1 : insD m e (k + 1) = true := by rw [insD_succ h, hl, Bool.or_true]
 refine ⟨?_, h1⟩
 unfold insO
 rw [if_pos h1, hd, takeE h, insGo_snoc]
 have h2 : (m.take k).any (fun y => decide (cmpE e y < 0)) = false := hd
 rw [h2, if_pos (of_decide_eq_true hl)]
 simp
theorem ins_no {m : List Ent} {e : Ent} {k : Nat} (h : k < m.length) (hc : (!insD m e k && lessE e (m.getD k ez)) = false) : insO m e (k + 1) = insO m e k ++ [m.getD k ez] ∧ insD m e (k + 1) = insD m e k := by
 cases hd : insD m e k with
 | true =>
  have h1 : insD m e (k + 1) = true := by rw [insD_succ h, hd, Bool.true_or]
  refine ⟨?_, h1⟩
  unfold insO
  rw [if_pos h1, hd, takeE h, insGo_snoc]
  have h2 : (m.take k).any (fun y => decide (cmpE e y < 0)) = true := hd
  rw [h2]; simp
 | false =>
  have hl : lessE e (m.getD k ez) = false := by rw [hd] at hc; simpa using hc
  have h1 : insD m e (k + 1) = false := by rw [insD_succ h, hd, hl]; rfl
  refine ⟨?_, h1⟩
  unfold insO
  rw [h1, hd, takeE h]
  simp
theorem ins_end {m : List Ent} {e : Ent} {k : Nat} (h : m.length ≤ k) : insGo cmpE e m = if insD m e k then insO m e k else insO m e k ++ [e] := by
 have ht : m.take k = m := List.take_of_length_le h
 unfold insO
 cases hd : insD m e k with
 | true => simp [ht]
 | false =>
  unfold insD at hd
  rw [ht] at hd ⊢
  simp [insGo_none m hd]
section
variable {m : List Ent} {k : Nat} {s : W64} {r : Int}
end
section
variable {imp : Int → Int → Bool} {m l : List Ent} {k : Nat}
end
end Go.Lx
/- Books of grants in memory; the law's operations. Nothing of a program stands here. -/
namespace Go.Lx
open Go Go.RowKit
def GbIs (w : World) (v : Value) (m : List Ent) : Prop := ∃ p a c, v = .pointer (some ⟨p, 0, none⟩) ∧ At w p 0 [.slice a m.length c] ∧ Sl encE 4 (Lt w.heap.size) w a c m
theorem GbIs.ext {γ : Prop} {w w' : World} {v : Value} {m : List Ent} (h : GbIs w v m) (x : Ext γ w w') : GbIs w' v m :=
 let ⟨p, a, c, h1, h2, h3⟩ := h
 ⟨p, a, c, h1, h2.keep x id, (h3.ext x).top⟩
def GbF (F : Nat → Prop) (w : World) (v : Value) (m : List Ent) : Prop := ∃ p a c, v = .pointer (some ⟨p, 0, none⟩) ∧ F p ∧ At w p 0 [.slice a m.length c] ∧ Sl encE 4 F w a c m
section
variable {F F' D : Nat → Prop} {γ : Prop} {w w' : World} {v : Value} {m : List Ent}
theorem GbF.keep (h : GbF F w v m) (x : Bel γ D w w') (hd : ∀ b, b < w.heap.size → F b → ¬ D b) : GbF F w' v m :=
 let ⟨p, a, c, h1, h2, h3, h4⟩ := h
 ⟨p, a, c, h1, h2, h3.keep x (hd p h3.lt h2), h4.keep x hd⟩
theorem GbF.ext (h : GbF F w v m) (x : Ext γ w w') : GbF F w' v m := h.keep x fun _ _ _ => id
theorem GbF.mono (h : GbF F w v m) (hd : ∀ b, b < w.heap.size → F b → F' b) : GbF F' w v m :=
 let ⟨p, a, c, h1, h2, h3, h4⟩ := h
 ⟨p, a, c, h1, hd p h3.lt h2, h3, h4.mono hd⟩
theorem GbF.is (h : GbF F w v m) : GbIs w v m :=
 let ⟨p, a, c, h1, _, h3, h4⟩ := h
 ⟨p, a, c, h1, h3, h4.top⟩
theorem GbIs.f (h : GbIs w v m) : GbF (Lt w.heap.size) w v m :=
 let ⟨p, a, c, h1, h3, h4⟩ := h
 ⟨p, a, c, h1, h3.lt, h3, h4⟩
end
def GbP (w : World) (p : Value) (e : Int) (m : List Ent) : Prop := (e = 0 → GbIs w p m) ∧ (e ≠ 0 → p = .pointer none)
theorem GbP.ext {γ : Prop} {w w' : World} {p : Value} {e : Int} {m : List Ent} (h : GbP w p e m) (x : Ext γ w w') : GbP w' p e m := ⟨fun he => (h.1 he).ext x, h.2⟩
def GbO (w : World) (p : Value) (m : List Ent) : Prop := GbIs w p m ∨ p = .pointer none ∧ m = []
theorem GbO.ext {γ : Prop} {w w' : World} {p : Value} {m : List Ent} (h : GbO w p m) (x : Ext γ w w') : GbO w' p m := h.imp (·.ext x) id
structure GOp where
 wd : Bool
 rl : UInt8
 p : RawV
def roleL : List Int := [0, 63, 64, -1, 65, 62]
def roleN (n : UInt8) : Int := if 250 ≤ n.toNat then roleL.getD (n.toNat - 250) 0 else 1 + ((n.toNat % 6 : Nat) : Int)
def GOp.ent (o : GOp) : Ent := ⟨roleN o.rl, o.p.perm⟩
theorem GOp.okp (o : GOp) : o.ent.p.ok := o.p.ok
def stepGr (m : List Ent) (o : GOp) : List Ent × Int := if o.wd then dropR m o.ent else grantR m o.ent
theorem OkG.step {m : List Ent} (h : OkG m) (o : GOp) : OkG (stepGr m o).1 := by
 unfold stepGr
 split
 ·exact h.drop _
 ·exact h.grant o.okp
theorem lessE_ne {a b : Ent} (h : (a.r != b.r) = true) : decide (a.r < b.r) = lessE a b := by
 have h1 : a.r ≠ b.r := by simpa using h
 rw [lessE, cmpE, if_pos h]
 unfold cmpI
 rw [Bool.eq_iff_iff, decide_eq_true_iff, decide_eq_true_iff]
 (repeat' split) <;> omega
theorem lessE_eq {a b : Ent} (h : (a.r != b.r) = false) : decide (cmpM a.p b.p < 0) = lessE a b := by
 rw [lessE, cmpE, if_neg (by rw [h]; simp)]
end Go.Lx
/- What the walks ask of this program's types of grants. -/
namespace Go.Proofs.YtdnkjdmfnmdpdaaGreatDoor
open Go Go.Lx
set_option maxRecDepth 10000
theorem eqF_consA {P : Program} {d k : Nat} {xs ys a b : Array Value} {f : Field} {fs : List Field} {r r' : Bool} (hn : f.name ≠ "_") (ha : ∀ w, (isAgg f.type).run P w = .ok true w) (hs : ∀ w, (sizeOf f.type).run P w = .ok k w) (hx : xs.extract f.offset (f.offset + k) = a) (hy : ys.extract f.offset (f.offset + k) = b)
  (he : ∀ w, (Op.equalIn d f.type (.agg a) (.agg b)).run P w = .ok r w) (hr : ∀ w, (Op.eqFields d xs ys fs).run P w = .ok r' w) : ∀ w, (Op.eqFields d xs ys (f :: fs)).run P w = .ok (r && r') w := by
 intro w
 simp only [Op.eqFields, hn, ne_eq, not_false_eq_true, if_true, Sem.run_bind, part, ha, hs, Result.andThen_ok, hx, hy, Sem.run_pure, he]
 cases r
 ·simp
 ·simp [hr]
theorem eqI_int (d : Nat) (x y : Int) : ∀ w, (Op.equalIn (d + 1) 3 (.int .i64 x) (.int .i64 y)).run Tryz.prog w = .ok (x == y) w := by
 intro w
 simp [Op.equalIn, run_underlying Tryz.underlying3]
theorem entBeq (x y : Ent) : (x == y) = ((x.r == y.r) && (x.p == y.p)) := by
 obtain ⟨a, b⟩ := x
 obtain ⟨a', b'⟩ := y
 rw [Bool.eq_iff_iff]
 simp only [Bool.and_eq_true, beq_iff_eq, Ent.mk.injEq]
theorem eq_rpermD (x y : Perm) : ∀ w, (Op.equalIn 9999 42 (.agg (encP x).toArray) (.agg (encP y).toArray)).run Tryz.prog w = .ok (x == y) w := fun w => by
 rw [run_equalIn_struct w 9998 _ _ _ (by kernel_rfl) (by kernel_rfl), permBeq, Bool.and_assoc, Program.fieldsOf, Tryz.underlying42]
 have h3 : ((x.deep == y.deep) : Bool) = ((x.deep == y.deep) && true) := (Bool.and_true _).symm
 rw [h3]
 exact JM (by simp) Tryz.isAgg9 rfl rfl (eqI_str _ _ Tryz.underlying9) (JM (by simp) Tryz.isAgg9 rfl rfl (eqI_str _ _ Tryz.underlying9) (JM (by simp) Tryz.isAgg4 rfl rfl (fun w => run_equalIn_bool' w _ _ _ _ Tryz.underlying4) eqF_nil)) w
theorem eq_rent : EqT Tryz.prog 114 encE := ⟨by kernel_rfl, fun w x y => by
 rw [run_equalIn_struct w 9999 _ _ _ (by kernel_rfl) (by kernel_rfl), entBeq, Program.fieldsOf, Tryz.underlying114]
 have h3 : ((x.p == y.p) : Bool) = ((x.p == y.p) && true) := (Bool.and_true _).symm
 rw [h3]
 exact JM (by simp) Tryz.isAgg3 rfl rfl (eqI_int _ _ _) (eqF_consA (by simp) Tryz.isAgg42 Tryz.sizeOf42 rfl rfl (eq_rpermD x.p y.p) eqF_nil) w⟩
theorem el_rent : ElT Tryz.prog 33 114 4 48 (.agg #[.int .i64 0, .string ⟨#[]⟩, .string ⟨#[]⟩, .bool false]) := ⟨Tryz.underlying33, ⟨Tryz.t114, by kernel_rfl, rfl, rfl, rfl⟩, rfl, by decide, by decide⟩
end Go.Proofs.YtdnkjdmfnmdpdaaGreatDoor
/- Maps with keys of a basic type: what a block holds, in the order of its entries; look-up, store, length, deletion, and a range in whatever order. Nothing of a program stands here. -/
namespace Go.Lx
open Go Go.RowKit Go.MapKept Go.ChangeMaps
structure KeyEnc {κ : Type} (d : TypeDesc) (ek : κ → Value) : Prop where
 key : ∀ k, IsKey d (ek k)
 inj : ∀ a b, ek a = ek b → a = b
section
variable {κ α : Type} [DecidableEq κ]
def rowM (ek : κ → Value) (em : α → Value) (l : List (κ × α)) : List (Value × Value) := l.map fun p => (ek p.1, em p.2)
def entM (es : List MapEntry) : List (Value × Value) := es.map fun e => (e.key, e.val)
def Mp (ek : κ → Value) (em : α → Value) (w : World) (b : Nat) (l : List (κ × α)) : Prop :=
 ∃ es clock, w.heap[b]? = some (.map es clock) ∧ Stamped es clock ∧ entM es.toList = rowM ek em l
def It (ek : κ → Value) (em : α → Value) (w : World) (r b : Nat) (l left : List (κ × α)) (cur : Option (κ × α)) : Prop :=
 ∃ es clock seen, w.heap[b]? = some (.map es clock) ∧ Stamped es clock ∧ entM es.toList = rowM ek em l ∧ w.heap[r]? = some (.mapIter (some b) clock seen clock) ∧ entM (leftOf es seen).toList = rowM ek em left ∧
  ∀ p, cur = some p → ∃ e ∈ es.toList, (e.key, e.val) = (ek p.1, em p.2) ∧ ∃ s0 : Array Nat, seen = s0.push e.born
def getM (l : List (κ × α)) (k : κ) : Option α := (l.find? fun p => decide (p.1 = k)).map (·.2)
def putM (l : List (κ × α)) (k : κ) (a : α) : List (κ × α) := if l.any (fun p => decide (p.1 = k)) then l.map (fun p => if p.1 = k then (k, a) else p) else l ++ [(k, a)]
variable {ek : κ → Value} {em : α → Value} {w w' : World} {b r : Nat} {l left : List (κ × α)} {cur : Option (κ × α)}
theorem Mp.lt (h : Mp ek em w b l) : b < w.heap.size := let ⟨_, _, h1, _⟩ := h; (Array.getElem?_eq_some_iff.1 h1).1
theorem Mp.keep {γ : Prop} {D : Nat → Prop} (h : Mp ek em w b l) (x : Bel γ D w w') (hd : ¬ D b) : Mp ek em w' b l := by
 have hl := h.lt
 obtain ⟨es, c, h1, h2, h3⟩ := h
 exact ⟨es, c, by rw [x.block b hl hd]; exact h1, h2, h3⟩
theorem Mp.ext {γ : Prop} (h : Mp ek em w b l) (x : Ext γ w w') : Mp ek em w' b l := h.keep x id
theorem It.lt (h : It ek em w r b l left cur) : r < w.heap.size := let ⟨_, _, _, _, _, _, h1, _⟩ := h; (Array.getElem?_eq_some_iff.1 h1).1
theorem It.mp (h : It ek em w r b l left cur) : Mp ek em w b l := let ⟨es, c, _, h1, h2, h3, _⟩ := h; ⟨es, c, h1, h2, h3⟩
theorem It.keep {γ : Prop} {D : Nat → Prop} (h : It ek em w r b l left cur) (x : Bel γ D w w') (hd : ¬ D r) (hd' : ¬ D b) : It ek em w' r b l left cur := by
 have hl := h.lt
 have hl' := h.mp.lt
 obtain ⟨es, c, s, h1, h2, h3, h4, h5⟩ := h
 exact ⟨es, c, s, by rw [x.block b hl' hd']; exact h1, h2, h3, by rw [x.block r hl hd]; exact h4, h5⟩
theorem It.ext {γ : Prop} (h : It ek em w r b l left cur) (x : Ext γ w w') : It ek em w' r b l left cur := h.keep x id id
theorem entM_keys {es : List MapEntry} (h : entM es = rowM ek em l) : es.map (·.key) = l.map fun p => ek p.1 := by
 have := congrArg (List.map Prod.fst) h
 simpa [entM, rowM, List.map_map, Function.comp_def] using this
theorem ent_get {es : List MapEntry} (h : entM es = rowM ek em l) {j : Nat} {e : MapEntry} (hj : es[j]? = some e) : ∃ p, l[j]? = some p ∧ e.key = ek p.1 ∧ e.val = em p.2 := by
 have h1 : (entM es)[j]? = some (e.key, e.val) := by simp [entM, hj]
 rw [h] at h1
 simp only [rowM, List.getElem?_map] at h1
 cases hp : l[j]? with
 | none => simp [hp] at h1
 | some p =>
  simp [hp] at h1
  exact ⟨p, rfl, h1.1.symm, h1.2.symm⟩
theorem keys_nd {d : TypeDesc} (he : KeyEnc d ek) {es : Array MapEntry} {c : Nat} (hs : Stamped es c) (h : entM es.toList = rowM ek em l) : (l.map (·.1)).Nodup := by
 have h3 := hs.2.2
 rw [entM_keys h] at h3
 have : (l.map (·.1)).map ek = l.map fun p => ek p.1 := by simp [List.map_map, Function.comp_def]
 rw [← this] at h3
 exact (List.pairwise_map.1 h3).imp fun hne e => hne (by rw [e])
theorem Mp.nd {d : TypeDesc} (he : KeyEnc d ek) (h : Mp ek em w b l) : (l.map (·.1)).Nodup := let ⟨_, _, _, h2, h3⟩ := h; keys_nd he h2 h3
theorem getM_no {k : κ} (h : ∀ p ∈ l, p.1 ≠ k) : getM l k = none := by
 unfold getM
 rw [List.find?_eq_none.2 (fun p hp => by simpa using h p hp)]; rfl
theorem getM_at {k : κ} {a : α} {j : Nat} (hn : (l.map (·.1)).Nodup) (h : l[j]? = some (k, a)) : getM l k = some a := by
 unfold getM
 have hm : (k, a) ∈ l := List.mem_of_getElem? h
 cases hf : l.find? fun p => decide (p.1 = k) with
 | none => exact absurd (List.find?_eq_none.1 hf _ hm) (by simp)
 | some q =>
  have hq := List.mem_of_find?_eq_some hf
  have hk := List.find?_some hf
  simp only [decide_eq_true_eq] at hk
  have : q = (k, a) := by
   have hinj := (List.pairwise_map.1 hn)
   obtain ⟨i, hi, ei⟩ := List.getElem_of_mem hq
   obtain ⟨j', hj', ej⟩ := List.getElem_of_mem hm
   rcases Nat.lt_trichotomy i j' with hlt | heq | hlt
   ·have := (List.pairwise_iff_getElem.1 hinj) i j' hi hj' hlt
    rw [ei, ej] at this; exact absurd hk this
   ·subst heq; rw [← ei, ← ej]
   ·have := (List.pairwise_iff_getElem.1 hinj) j' i hj' hi hlt
    rw [ei, ej] at this; exact absurd hk.symm this
  rw [this]; rfl
section
variable {P : Program} {fr : Fr} {d : Option Nat} {t : TypeId} {ps : String} {af : Array Edge} {g : Option (Nat × Bool)} {x y z : Operand} {T K E : TypeId} {D : TypeDesc} {k : κ} {a z0 : α}
end
theorem Bel.block1 {β : Prop} {b : Nat} (w : World) (o : Obj) : Bel β (Only b) w (setBlock w b o) :=
 ⟨rfl, rfl, rfl, by simp [setBlock], fun j _ hj => by simp only [setBlock]; rw [Array.getElem?_setIfInBounds_ne (fun e => hj e.symm)], fun _ => Nat.le_refl _⟩
theorem block1_same {w : World} {b : Nat} {o1 : Obj} (h : w.heap[b]? = some o1) (o : Obj) : (setBlock w b o).heap[b]? = some o := by
 have hl := (Array.getElem?_eq_some_iff.1 h).1
 simp [setBlock, hl]
theorem putM_no {k : κ} {a : α} (h : ∀ p ∈ l, p.1 ≠ k) : putM l k a = l ++ [(k, a)] := by
 unfold putM
 rw [if_neg]
 rw [List.any_eq_true]
 rintro ⟨p, hp, e⟩
 exact h p hp (by simpa using e)
theorem other_key {l : List (κ × α)} {k : κ} {a : α} {i j : Nat} (hn : (l.map (·.1)).Nodup) (h : l[j]? = some (k, a)) {p : κ × α} (hp : l[i]? = some p) (hij : i ≠ j) : p.1 ≠ k := by
 have hinj := List.pairwise_iff_getElem.1 (List.pairwise_map.1 hn)
 obtain ⟨hi, ei⟩ := List.getElem?_eq_some_iff.1 hp
 obtain ⟨hj, ej⟩ := List.getElem?_eq_some_iff.1 h
 intro e
 rcases Nat.lt_or_gt_of_ne hij with hlt | hlt
 ·have := hinj i j hi hj hlt
  rw [ei, ej] at this; exact this e
 ·have := hinj j i hj hi hlt
  rw [ei, ej] at this; exact this e.symm
theorem putM_at {k : κ} {a0 a : α} {j : Nat} (hn : (l.map (·.1)).Nodup) (h : l[j]? = some (k, a0)) : putM l k a = l.set j (k, a) := by
 unfold putM
 rw [if_pos (List.any_eq_true.2 ⟨(k, a0), List.mem_of_getElem? h, by simp⟩)]
 apply List.ext_getElem?
 intro i
 rw [List.getElem?_map, List.getElem?_set]
 by_cases hij : j = i
 ·subst hij
  have hj := (List.getElem?_eq_some_iff.1 h).1
  rw [h]; simp [hj]
 ·rw [if_neg hij]
  cases hp : l[i]? with
  | none => rfl
  | some p =>
   have := other_key hn h hp (fun e => hij e.symm)
   simp [this]
theorem entM_modify {es : Array MapEntry} {j : Nat} {f : MapEntry → MapEntry} {e : MapEntry} (h : es[j]? = some e) : entM (es.modify j f).toList = (entM es.toList).set j ((f e).key, (f e).val) := by
 apply List.ext_getElem?
 intro i
 simp only [entM, List.getElem?_map, Array.getElem?_toList, Array.getElem?_modify, List.getElem?_set, List.length_map, Array.length_toList]
 have hj := (Array.getElem?_eq_some_iff.1 h).1
 by_cases hij : j = i
 ·subst hij
  have he := (Array.getElem?_eq_some_iff.1 h).2
  simp [h, hj, he]
 ·simp [hij]
section
variable {P : Program} {T K E : TypeId} {D : TypeDesc} {k : κ} {a : α}
theorem leftOf_all (es : Array MapEntry) : leftOf es #[] = es := by
 unfold leftOf
 rw [Array.filter_eq_self]
 intro x _; simp
theorem It.start {es : Array MapEntry} {c : Nat} (h1 : w.heap[b]? = some (.map es c)) (h2 : Stamped es c) (h3 : entM es.toList = rowM ek em l) : It ek em (w.alloc (.mapIter (some b) c #[] c)) w.heap.size b l l none := by
 have hl := (Array.getElem?_eq_some_iff.1 h1).1
 exact ⟨es, c, #[], by rw [heap_alloc_old w _ hl]; exact h1, h2, h3, heap_alloc_new w _, by rw [leftOf_all]; exact h3, fun p h => by cases h⟩
end
section
variable {rd : Option Nat} {P : Program} {n : Nat} {Q : Fr → World → Prop} {fr : Fr} {ops : Array Oper} {rest : List Oper} {d : Option Nat} {t : TypeId} {ps : String} {af : Array Edge} {T K E : TypeId} {D : TypeDesc} {k : κ} {a : α} {x y z : Operand}
end
end
