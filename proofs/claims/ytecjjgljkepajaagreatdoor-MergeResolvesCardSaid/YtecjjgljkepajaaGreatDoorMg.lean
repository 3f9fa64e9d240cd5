/- Several texts in one file. -/
import Derived.Test.YtecjjgljkepajaaGreatDoorMap
import Derived.Test.YtecjjgljkepajaaGreatDoorOwn3
import Derived.Maps.Keyed
import Derived.DeepKeys4
import Derived.Test.YtecjjgljkepajaaGreatDoorWire
import Derived.Test.YtecjjgljkepajaaGreatDoorLk
set_option linter.unusedSimpArgs false
set_option linter.unusedVariables false
set_option linter.unnecessarySimpa false
set_option linter.unusedSectionVars false
/- Two sets of ops, merged: what is in no conflict, the conflicts, a choice. Nothing of a program stands here. -/
namespace Go.Lx
open Go
def withK (l : List COp) (κ : OKey) : List COp := l.filter fun o => decide (o.key = κ)
def keysO (l : List COp) : List OKey := compL (l.map COp.key)
theorem takeK {X : List COp} {k : Nat} (h : k < X.length) : (X.take (k + 1)).map COp.key = (X.take k).map COp.key ++ [(X.getD k coz).key] := by
 have e : X.getD k coz = X[k] := by simp [List.getD, h]
 rw [List.take_succ_eq_append_getElem h, List.map_append, e]; rfl
def wsS (a : Option Addr) (n c : Nat) : List Value := [.slice a n c]
structure VS (l : List COp) : Prop where
 v : ∀ x ∈ l, Vo x
 cf : CF l
 pw : l.Pairwise fun x y => cmpO x y < 0
theorem VS.nil : VS [] := ⟨by simp, List.Pairwise.nil, List.Pairwise.nil⟩
theorem VS.wo {l : List COp} (h : VS l) : ∀ x ∈ l, Wo x := fun x hx => (h.v x hx).wo
theorem VS.le {l : List COp} (h : VS l) : l.Pairwise fun x y => cmpO x y ≤ 0 := h.pw.imp fun h => Int.le_of_lt h
theorem vs_sort {l : List COp} (hv : ∀ x ∈ l, Vo x) (hc : CF l) : VS (sortO l) := by
 have hm : ∀ x ∈ sortO l, Vo x := fun x hx => hv x ((sortO_perm l).mem_iff.1 hx)
 exact ⟨hm, hc.perm (sortO_perm l).symm, le_lt (fun x hx => (hm x hx).wo) (hc.perm (sortO_perm l).symm) (sortO_le fun x hx => (hv x hx).wo)⟩
theorem of_good {l : List COp} (hv : ∀ x ∈ l, Vo x) (hc : CF l) : ofO l = (sortO l, 0) := by
 unfold ofO
 rw [if_neg (by rw [errO_none.2 fun o ho => (hv o ho).chk]; simp), if_pos hc]
theorem vs_of {l : List COp} (ho : ∀ x ∈ l, x.p.ok) (h : (ofO l).2 = 0) : VS (ofO l).1 ∧ (ofO l).1.Perm l := by
 unfold ofO at h ⊢
 by_cases he : errO l ≠ 0
 ·rw [if_pos he] at h; exact absurd h he
 rw [if_neg he] at h ⊢
 have he' : errO l = 0 := Classical.not_not.1 he
 by_cases hc : CF l
 ·rw [if_pos hc]
  exact ⟨vs_sort (fun x hx => ⟨ho x hx, errO_none.1 he' x hx⟩) hc, sortO_perm l⟩
 ·rw [if_neg hc] at h; cases h
theorem VS.sorted {l : List COp} (h : VS l) : sortO l = l := (sort_unique h.wo h.cf (List.Perm.refl _) h.le).symm
theorem VS.of {l : List COp} (h : VS l) : ofO l = (l, 0) := by rw [of_good h.v h.cf, h.sorted]
theorem VS.sub {l m : List COp} (h : VS l) (hm : m.Sublist l) : VS m := ⟨fun x hx => h.v x (hm.subset hx), h.cf.sublist hm, h.pw.sublist hm⟩
theorem withK_mem {l : List COp} {κ : OKey} {o : COp} : o ∈ withK l κ ↔ o ∈ l ∧ o.key = κ := by
 unfold withK; rw [List.mem_filter, decide_eq_true_iff]
theorem withK_ne {l : List COp} {κ : OKey} : withK l κ ≠ [] ↔ ∃ o ∈ l, o.key = κ := by
 constructor
 ·intro h
  obtain ⟨o, r, e⟩ := List.exists_cons_of_ne_nil h
  have : o ∈ withK l κ := by rw [e]; simp
  exact ⟨o, withK_mem.1 this⟩
 ·rintro ⟨o, h1, h2⟩ e
  have : o ∈ withK l κ := withK_mem.2 ⟨h1, h2⟩
  rw [e] at this; cases this
theorem withK_sub (l : List COp) (κ : OKey) : (withK l κ).Sublist l := List.filter_sublist
def wkL : (l : List OKey) → (∀ x ∈ l, Wk x) → List WK
 | [], _ => []
 | x :: r, h => ⟨x, h x (by simp)⟩ :: wkL r (fun y hy => h y (by simp [hy]))
theorem wkL_map : ∀ (l : List OKey) (h : ∀ x ∈ l, Wk x), (wkL l h).map (·.1) = l
 | [], _ => rfl
 | x :: r, h => by simp [wkL, wkL_map r]
theorem wkL_mem {x : OKey} (hx : Wk x) (l : List OKey) (h : ∀ x ∈ l, Wk x) : (⟨x, hx⟩ : WK) ∈ wkL l h ↔ x ∈ l := by
 conv => rhs; rw [← wkL_map l h]
 rw [List.mem_map]
 exact ⟨fun q => ⟨_, q, rfl⟩, fun ⟨q, hq, e⟩ => by have : q = ⟨x, hx⟩ := Subtype.ext e; exact this ▸ hq⟩
theorem wk_unique {a b : List OKey} (ha : ∀ x ∈ a, Wk x) (hb : ∀ x ∈ b, Wk x) (h1 : a.Pairwise fun x y => cmpK x y < 0) (h2 : b.Pairwise fun x y => cmpK x y < 0) (hm : ∀ x, x ∈ a ↔ x ∈ b) : a = b := by
 have e : wkL a ha = wkL b hb := by
  refine pw_unique cmpK_is ?_ ?_ ?_
  ·rw [← List.pairwise_map (f := fun x : WK => x.1) (R := fun x y => cmpK x y < 0), wkL_map]; exact h1
  ·rw [← List.pairwise_map (f := fun x : WK => x.1) (R := fun x y => cmpK x y < 0), wkL_map]; exact h2
  ·rintro ⟨x, hx⟩
   rw [wkL_mem, wkL_mem]; exact hm x
 rw [← wkL_map a ha, e, wkL_map]
theorem compStep_wk (acc : List WK) (x : WK) : (compStep acc x).map (·.1) = compStep (acc.map (·.1)) x.1 := by
 unfold compStep
 have e : (acc.getLast? == some x) = ((acc.map (·.1)).getLast? == some x.1) := by
  rw [List.getLast?_map]
  cases h : acc.getLast? with
  | none => rfl
  | some y =>
   rw [Bool.eq_iff_iff, beq_iff_eq]
   simp only [Option.map_some, beq_iff_eq, Option.some.injEq]
   exact ⟨fun e => by rw [e], fun e => Subtype.ext e⟩
 rw [e]
 split <;> simp
theorem compF_wk : ∀ (l acc : List WK), (l.foldl compStep acc).map (·.1) = (l.map (·.1)).foldl compStep (acc.map (·.1))
 | [], _ => rfl
 | x :: r, acc => by
  show (r.foldl compStep (compStep acc x)).map (·.1) = _
  rw [compF_wk r, compStep_wk]; rfl
theorem keys_asc {l : List COp} (h : VS l) : (keysO l).Pairwise (fun x y => cmpK x y < 0) ∧ ∀ κ, κ ∈ keysO l ↔ ∃ o ∈ l, o.key = κ := by
 have hw : ∀ x ∈ l.map COp.key, Wk x := fun x hx => by
  obtain ⟨o, ho, rfl⟩ := List.mem_map.1 hx
  exact h.wo o ho
 have hp : (wkL (l.map COp.key) hw).Pairwise (fun x y => cmpK x.1 y.1 ≤ 0) := by
  rw [← List.pairwise_map (f := fun x : WK => x.1) (R := fun x y => cmpK x y ≤ 0), wkL_map, List.pairwise_map]
  exact h.le.imp cmpO_le_K
 obtain ⟨h1, h2⟩ := comp_pw cmpK_is _ hp
 have e : (compL (wkL (l.map COp.key) hw)).map (·.1) = keysO l := by
  show ((wkL (l.map COp.key) hw).foldl compStep []).map (·.1) = _
  rw [compF_wk, wkL_map]; rfl
 constructor
 ·rw [← e, List.pairwise_map]; exact h1
 ·intro κ
  rw [← e, List.mem_map]
  constructor
  ·rintro ⟨q, hq, rfl⟩
   have := (wkL_mem q.2 (l.map COp.key) hw).1 ((h2 q).1 hq)
   obtain ⟨o, ho, e⟩ := List.mem_map.1 this
   exact ⟨o, ho, e⟩
  ·rintro ⟨o, ho, rfl⟩
   exact ⟨⟨o.key, h.wo o ho⟩, (h2 _).2 ((wkL_mem _ _ _).2 (List.mem_map_of_mem ho)), rfl⟩
theorem keys_wk {l : List COp} (h : VS l) : ∀ κ ∈ keysO l, Wk κ := fun κ hκ => by
 obtain ⟨o, ho, rfl⟩ := ((keys_asc h).2 κ).1 hκ
 exact h.wo o ho
theorem key_lt {x y : COp} (h : cmpK x.key y.key < 0) : cmpO x y < 0 := by
 unfold cmpO; rw [if_pos (by omega)]; exact h
theorem flat_keys {l : List COp} (h : VS l) (p : OKey → Bool) : ((keysO l).filter p).flatMap (withK l) = l.filter fun o => p o.key := by
 obtain ⟨h1, h2⟩ := keys_asc h
 refine lt_unique (fun x hx => ?_) (fun x hx => h.wo x (List.mem_filter.1 hx).1) ?_ (h.pw.sublist List.filter_sublist) ?_
 ·obtain ⟨κ, _, hx⟩ := List.mem_flatMap.1 hx
  exact h.wo x (withK_mem.1 hx).1
 ·rw [List.pairwise_flatMap]
  refine ⟨fun κ _ => h.pw.sublist (withK_sub l κ), (h1.sublist List.filter_sublist).imp fun {a b} hab x hx y hy => ?_⟩
  have e1 := (withK_mem.1 hx).2
  have e2 := (withK_mem.1 hy).2
  exact key_lt (by rw [e1, e2]; exact hab)
 ·intro x
  rw [List.mem_flatMap, List.mem_filter]
  constructor
  ·rintro ⟨κ, hκ, hx⟩
   obtain ⟨hx1, rfl⟩ := withK_mem.1 hx
   exact ⟨hx1, (List.mem_filter.1 hκ).2⟩
  ·rintro ⟨hx, hp⟩
   exact ⟨x.key, List.mem_filter.2 ⟨(h2 _).2 ⟨x, hx, rfl⟩, hp⟩, withK_mem.2 ⟨hx, rfl⟩⟩
def isFst (l : List COp) (o : COp) : Bool := decide (o = (withK l o.key).headD coz)
theorem cmpK_self {x : OKey} (h : Wk x) : cmpK x x = 0 := cmpK_is.irr ⟨x, h⟩
theorem cmpO_self {x : COp} (h : Wo x) : cmpO x x = 0 := by
 unfold cmpO; rw [if_neg (by rw [cmpK_self h]; simp), if_pos rfl]
theorem fst_keys {l : List COp} (h : VS l) (p : OKey → Bool) : (l.filter fun o => p o.key && isFst l o).map COp.key = (keysO l).filter p := by
 obtain ⟨h1, h2⟩ := keys_asc h
 refine wk_unique (fun x hx => ?_) (fun x hx => keys_wk h x (List.mem_filter.1 hx).1) ?_ (h1.sublist List.filter_sublist) ?_
 ·obtain ⟨o, ho, rfl⟩ := List.mem_map.1 hx
  exact h.wo o (List.mem_filter.1 ho).1
 ·rw [List.pairwise_map]
  refine (h.pw.sublist List.filter_sublist).imp_of_mem fun {a b} ha hb hab => ?_
  obtain ⟨ha1, ha2⟩ := List.mem_filter.1 ha
  obtain ⟨hb1, hb2⟩ := List.mem_filter.1 hb
  rw [Bool.and_eq_true] at ha2 hb2
  have e1 := of_decide_eq_true ha2.2
  have e2 := of_decide_eq_true hb2.2
  have hle := cmpO_le_K (Int.le_of_lt hab)
  rcases Int.lt_or_eq_of_le hle with h3 | h3
  ·exact h3
  ·have hk := (cmpK_eq (h.wo a ha1) (h.wo b hb1)).1 h3
   have : a = b := by rw [e1, e2, hk]
   rw [this, cmpO_self (h.wo b hb1)] at hab
   omega
 ·intro κ
  rw [List.mem_map, List.mem_filter]
  constructor
  ·rintro ⟨o, ho, rfl⟩
   obtain ⟨ho1, ho2⟩ := List.mem_filter.1 ho
   rw [Bool.and_eq_true] at ho2
   exact ⟨(h2 _).2 ⟨o, ho1, rfl⟩, ho2.1⟩
  ·rintro ⟨hκ, hp⟩
   obtain ⟨o, ho, rfl⟩ := (h2 κ).1 hκ
   obtain ⟨x, r, e⟩ := List.exists_cons_of_ne_nil (withK_ne.2 ⟨o, ho, rfl⟩)
   have hx : x ∈ withK l o.key := by rw [e]; simp
   obtain ⟨hx1, hx2⟩ := withK_mem.1 hx
   refine ⟨x, List.mem_filter.2 ⟨hx1, ?_⟩, hx2⟩
   rw [Bool.and_eq_true]
   refine ⟨by rw [hx2]; exact hp, decide_eq_true ?_⟩
   rw [hx2, e]; rfl
def goodB (A B : List COp) (κ : OKey) : Bool := (withK B κ).isEmpty || withK A κ == withK B κ
def bothO (A B : List COp) : List COp := A.filter (fun o => goodB A B o.key) ++ B.filter (fun o => (withK A o.key).isEmpty)
structure Cfl where
 κ : OKey
 o : COp
 t : COp
 deriving DecidableEq
def lastO (l : List COp) : COp := l.getLastD coz
def mkC (A B : List COp) (κ : OKey) : Cfl := ⟨κ, lastO (withK A κ), lastO (withK B κ)⟩
def badK (A B : List COp) : List OKey := (keysO A).filter fun κ => !goodB A B κ
def cflO (A B : List COp) : List Cfl := (badK A B).map (mkC A B)
theorem good_iff {A B : List COp} {κ : OKey} : goodB A B κ = true ↔ withK B κ = [] ∨ withK A κ = withK B κ := by
 unfold goodB; rw [Bool.or_eq_true, List.isEmpty_iff, beq_iff_eq]
theorem bad_iff {A B : List COp} (hA : VS A) {κ : OKey} : κ ∈ badK A B ↔ withK A κ ≠ [] ∧ withK B κ ≠ [] ∧ withK A κ ≠ withK B κ := by
 unfold badK
 rw [List.mem_filter, (keys_asc hA).2, ← withK_ne, Bool.not_eq_true', ← Bool.not_eq_true, good_iff, not_or]
theorem bad_asc {A B : List COp} (hA : VS A) : (badK A B).Pairwise fun x y => cmpK x y < 0 := (keys_asc hA).1.sublist List.filter_sublist
theorem bad_wk {A B : List COp} (hA : VS A) : ∀ κ ∈ badK A B, Wk κ := fun κ h => keys_wk hA κ (List.mem_filter.1 h).1
theorem both_mem {A B : List COp} {o : COp} : o ∈ bothO A B ↔ (o ∈ A ∧ (withK B o.key = [] ∨ withK A o.key = withK B o.key)) ∨ (o ∈ B ∧ withK A o.key = []) := by
 unfold bothO
 rw [List.mem_append, List.mem_filter, List.mem_filter, good_iff, List.isEmpty_iff]
theorem both_vo {A B : List COp} (hA : VS A) (hB : VS B) : ∀ o ∈ bothO A B, Vo o := fun o ho => by
 rcases both_mem.1 ho with h | h
 ·exact hA.v o h.1
 ·exact hB.v o h.1
theorem confl_ne {x y : COp} (h : x.key ≠ y.key) : confl x y = false := by unfold confl; rw [decide_eq_false h]; rfl
theorem both_cf {A B : List COp} (hA : VS A) (hB : VS B) : CF (bothO A B) := by
 unfold bothO CF
 rw [List.pairwise_append]
 refine ⟨hA.cf.sublist List.filter_sublist, hB.cf.sublist List.filter_sublist, fun x hx y hy => confl_ne fun e => ?_⟩
 have hx := (List.mem_filter.1 hx).1
 have hy := (List.mem_filter.1 hy).2
 rw [List.isEmpty_iff, ← e] at hy
 exact withK_ne.2 ⟨x, hx, rfl⟩ hy
def pickO (A B : List COp) : List OKey → List Bool → List COp
 | κ :: r, c :: s => (if c then withK A κ else withK B κ) ++ pickO A B r s
 | _, _ => []
def resolveO (A B : List COp) (c : List Bool) : List COp × Int := if c.length ≠ (badK A B).length then ([], 1) else ofO (bothO A B ++ pickO A B (badK A B) c)
theorem pickO_succ {A B : List COp} : ∀ {L : List OKey} {c : List Bool} {k : Nat} {z : OKey}, k < L.length → k < c.length → pickO A B (L.take (k + 1)) (c.take (k + 1)) = pickO A B (L.take k) (c.take k) ++ (if c.getD k false then withK A (L.getD k z) else withK B (L.getD k z))
 | [], _, _, _, h, _ => by simp at h
 | _ :: _, [], _, _, _, h => by simp at h
 | κ :: r, c :: s, 0, z, _, _ => by simp [pickO]
 | κ :: r, c :: s, k + 1, z, h, h2 => by
  have ih := pickO_succ (A := A) (B := B) (L := r) (c := s) (k := k) (z := z) (by simpa using h) (by simpa using h2)
  simp only [List.take_succ_cons, pickO, List.getD_cons_succ, List.append_assoc]
  rw [ih]
theorem pickO_mem {A B : List COp} {o : COp} : ∀ {L : List OKey} {c : List Bool}, o ∈ pickO A B L c → o.key ∈ L ∧ (o ∈ A ∨ o ∈ B)
 | [], _, h => by simp [pickO] at h
 | _ :: _, [], h => by simp [pickO] at h
 | κ :: r, c :: s, h => by
  simp only [pickO, List.mem_append] at h
  rcases h with h | h
  ·cases c <;> simp only [Bool.false_eq_true, if_false, if_true] at h
   ·obtain ⟨h1, rfl⟩ := withK_mem.1 h; exact ⟨by simp, .inr h1⟩
   ·obtain ⟨h1, rfl⟩ := withK_mem.1 h; exact ⟨by simp, .inl h1⟩
  ·have := pickO_mem h; exact ⟨by simp [this.1], this.2⟩
theorem of_perm {l m : List COp} (ho : ∀ x ∈ l, Vo x) (hp : l.Perm m) : ofO l = ofO m := by
 have hm : ∀ x ∈ m, Vo x := fun x hx => ho x (hp.mem_iff.2 hx)
 by_cases hc : CF l
 ·rw [of_good ho hc, of_good hm (hc.perm hp), sort_unique (fun x hx => (hm x hx).wo) (hc.perm hp) ((sortO_perm l).trans hp) (sortO_le fun x hx => (ho x hx).wo)]
 ·have e1 : ofO l = ([], 12) := by
   unfold ofO
   rw [if_neg (by rw [errO_none.2 fun o h => (ho o h).chk]; simp), if_neg hc]
  have e2 : ofO m = ([], 12) := by
   unfold ofO
   rw [if_neg (by rw [errO_none.2 fun o h => (hm o h).chk]; simp), if_neg fun h => hc (h.perm hp.symm)]
  rw [e1, e2]
end Go.Lx
/- Maps whose keys are structs, and whose values are lists that the call owns: the ops of a set by their keys. Nothing of a program stands here. -/
namespace Go.Lx
open Go Go.RowKit Go.MapKept Go.ChangeMaps
structure KLaw {κ : Type} (P : Program) (K : TypeId) (ek : κ → Value) (G : κ → Prop) : Prop where
 law : Go.Maps.Keyed P K
 rds : ∀ k, G k → ∃ l, keyOf P K (ek k) = some l
 inj : ∀ a b, ek a = ek b → a = b
section
variable {κ α : Type} [DecidableEq κ] {ek : κ → Value} {em : α → Value} {G : κ → Prop} {w w' : World} {b : Nat} {l : List (κ × α)} {P : Program} {K T E : TypeId}
theorem Mp.ndI (hi : ∀ a b, ek a = ek b → a = b) (h : Mp ek em w b l) : (l.map (·.1)).Nodup := by
 obtain ⟨es, c, _, hs, he⟩ := h
 have h3 := hs.2.2
 rw [entM_keys he] at h3
 have : (l.map (·.1)).map ek = l.map fun p => ek p.1 := by simp [List.map_map, Function.comp_def]
 rw [← this] at h3
 exact (List.pairwise_map.1 h3).imp fun hne e => hne (by rw [e])
theorem find_casesK (L : KLaw P K ek G) {es : List MapEntry} (h : entM es = rowM ek em l) (hG : ∀ p ∈ l, G p.1) {k : κ} (hk : G k) (w : World) :
  ((Instr.findKey K (ek k) es).run P w = .ok none w ∧ (∀ p ∈ l, p.1 ≠ k) ∧ ∀ x ∈ es, x.key ≠ ek k) ∨ ∃ j e a, (Instr.findKey K (ek k) es).run P w = .ok (some (j, e.val)) w ∧ es[j]? = some e ∧ e.key = ek k ∧ e.val = em a ∧ l[j]? = some (k, a) := by
 obtain ⟨lx, hlx⟩ := L.rds k hk
 have hes : ∀ e ∈ es, ∃ l, keyOf P K e.key = some l := fun e he => by
  obtain ⟨j, hj⟩ := List.getElem?_of_mem he
  obtain ⟨p, hp, e1, _⟩ := ent_get h hj
  rw [e1]; exact L.rds p.1 (hG p (List.mem_of_getElem? hp))
 rcases L.law.find w hlx es hes with ⟨h1, h2⟩ | ⟨j, e, h1, h2, h3⟩
 ·refine .inl ⟨h1, fun p hp e => ?_, h2⟩
  have : ek p.1 ∈ l.map fun p => ek p.1 := List.mem_map.2 ⟨p, hp, rfl⟩
  rw [← entM_keys h] at this
  obtain ⟨x, hx, ex⟩ := List.mem_map.1 this
  exact h2 x hx (by rw [ex, e])
 ·obtain ⟨p, hp, e1, e2⟩ := ent_get h h2
  have ek' : p.1 = k := L.inj _ _ (by rw [← e1, h3])
  refine .inr ⟨j, e, p.2, h1, h2, h3, e2, ?_⟩
  rw [hp, ← ek']
theorem run_lookupK {k : κ} {z0 : α} {ok : Bool} (L : KLaw P K ek G) (hT : P.underlying T = some (.map K E)) (hz : ∀ w, (zeroValue E).run P w = .ok (em z0) w) (h : Mp ek em w b l) (hG : ∀ p ∈ l, G p.1) (hk : G k) :
  (Instr.lookup T (.map (some b)) (ek k) ok).run P w = .ok (if ok then .tuple #[em ((getM l k).getD z0), .bool (getM l k).isSome] else em ((getM l k).getD z0)) w := by
 have hnd := h.ndI L.inj
 obtain ⟨es, c, h1, h2, h3⟩ := h
 obtain ⟨lx, hlx⟩ := L.rds k hk
 have hck : ∀ e, (Instr.checkKey e 10000 K (ek k)).run P w = .ok () w := fun e => L.law.check w e hlx
 rcases find_casesK L h3 hG hk w with ⟨f1, f2, _⟩ | ⟨j, e, a, f1, f2, f3, f4, f5⟩
 ·rw [getM_no f2]
  cases ok <;> simp [Instr.lookup, run_underlying hT, MapKept.run_getObj_map h1, hck, f1, hz]
 ·rw [getM_at hnd f5]
  cases ok <;> simp [Instr.lookup, run_underlying hT, MapKept.run_getObj_map h1, hck, f1, ← f4]
theorem run_mputK {k : κ} {a : α} (L : KLaw P K ek G) (hT : P.underlying T = some (.map K E)) (h : Mp ek em w b l) (hG : ∀ p ∈ l, G p.1) (hk : G k) :
  ∃ w', (Instr.mapUpdate T (.map (some b)) (ek k) (em a)).run P w = .ok () w' ∧ Bel True (Only b) w w' ∧ Mp ek em w' b (putM l k a) := by
 have hnd := h.ndI L.inj
 obtain ⟨es, c, h1, h2, h3⟩ := h
 obtain ⟨lx, hlx⟩ := L.rds k hk
 have hck : (Instr.checkKey false 10000 K (ek k)).run P w = .ok () w := L.law.check w false hlx
 rcases find_casesK L h3 hG hk w with ⟨f1, f2, f3⟩ | ⟨j, e, a0, f1, f2, f3, f4, f5⟩
 ·refine ⟨setBlock w b (.map (es.push { key := ek k, val := em a, born := c }) (c + 1)), ?_, Bel.block1 _ _, _, _, block1_same h1 _, stamped_push h2 f3, ?_⟩
  ·simp [Instr.mapUpdate, run_underlying hT, MapKept.run_getObj_map h1, hck, f1, run_setObj_map _ h1, setBlock]
  ·rw [putM_no f2]
   simp only [entM, rowM, Array.toList_push, List.map_append, List.map_cons, List.map_nil] at h3 ⊢
   rw [h3]
 ·have f2' : es[j]? = some e := by simpa using f2
  refine ⟨setBlock w b (.map (es.modify j fun e => { e with key := ek k, val := em a }) c), ?_, Bel.block1 _ _, _, _, block1_same h1 _, stamped_modify h2 _ _ (fun _ _ => rfl) (fun x _ hx => ?_), ?_⟩
  ·have hk : (Instr.keyThatStays (ek k) (ek k)).run P w = .ok (ek k) w := L.law.stays w hlx
   simp [Instr.mapUpdate, run_underlying hT, MapKept.run_getObj_map h1, hck, f1, f2', f3, hk, run_setObj_map _ h1, setBlock]
  ·rw [f2'] at hx
   obtain rfl : e = x := by simpa using hx
   exact f3.symm
  ·rw [entM_modify f2', h3, putM_at hnd f5]
   simp only [rowM, List.map_set]
end
theorem getM_mem {κ α : Type} [DecidableEq κ] {l : List (κ × α)} {k : κ} {a : α} (h : getM l k = some a) : (k, a) ∈ l := by
 unfold getM at h
 cases hf : l.find? fun p => decide (p.1 = k) with
 | none => rw [hf] at h; cases h
 | some q =>
  rw [hf] at h
  have hk := List.find?_some hf
  simp only [decide_eq_true_eq] at hk
  simp only [Option.map_some, Option.some.injEq] at h
  have : q = (k, a) := by rw [← hk, ← h]
  rw [← this]; exact List.mem_of_find?_eq_some hf
theorem getM_none {κ α : Type} [DecidableEq κ] {l : List (κ × α)} {k : κ} (h : getM l k = none) : ∀ v, (k, v) ∉ l := fun v hv => by
 unfold getM at h
 rw [Option.map_eq_none_iff, List.find?_eq_none] at h
 exact h _ hv (by simp)
theorem putM_mem {κ α : Type} [DecidableEq κ] {l : List (κ × α)} {k : κ} {a : α} {p : κ × α} (h : p ∈ putM l k a) : p = (k, a) ∨ (p ∈ l ∧ p.1 ≠ k) := by
 unfold putM at h
 split at h
 ·obtain ⟨q, hq, e⟩ := List.mem_map.1 h
  by_cases hk : q.1 = k
  ·rw [if_pos hk] at e; exact .inl e.symm
  ·rw [if_neg hk] at e; subst e; exact .inr ⟨hq, hk⟩
 ·rename_i hn
  rcases List.mem_append.1 h with h | h
  ·exact .inr ⟨h, fun e => hn (List.any_eq_true.2 ⟨p, h, by simpa using e⟩)⟩
  ·exact .inl (by simpa using h)
theorem mem_putM {κ α : Type} [DecidableEq κ] {l : List (κ × α)} {k : κ} {a : α} : (k, a) ∈ putM l k a ∧ ∀ p ∈ l, p.1 ≠ k → p ∈ putM l k a := by
 unfold putM
 split
 ·rename_i h
  obtain ⟨q, hq, e⟩ := List.any_eq_true.1 h
  simp only [decide_eq_true_eq] at e
  exact ⟨List.mem_map.2 ⟨q, hq, by rw [if_pos e]⟩, fun p hp hk => List.mem_map.2 ⟨p, hp, by rw [if_neg hk]⟩⟩
 ·exact ⟨by simp, fun p hp _ => List.mem_append_left _ hp⟩
def eK (κ : OKey) : Value := .agg (encCk κ).toArray
def eM (p : Option Nat × Nat × Nat) : Value := .slice (p.1.map fun g => ⟨g, 0, none⟩) p.2.1 p.2.2
theorem keys_kr {l : List COp} (h : VS l) : ∀ κ ∈ keysO l, Kr κ := fun κ hκ => by
 obtain ⟨o, ho, rfl⟩ := ((keys_asc h).2 κ).1 hκ
 exact (h.v o ho).kr
theorem str_inj {a b : Str} (h : str a = str b) : a = b := by simp [str] at h; exact h
theorem eK_inj (a b : OKey) (h : eK a = eK b) : a = b := by
 have h : encCk a = encCk b := by
  have := Value.agg.inj h
  simpa using this
 unfold encCk at h
 have e1 := (List.cons.inj h).1; have h := (List.cons.inj h).2
 have e2 := (List.cons.inj h).1; have h := (List.cons.inj h).2
 have e3 := (List.cons.inj h).1; have h := (List.cons.inj h).2
 have e4 := str_inj (List.cons.inj h).1; have h := (List.cons.inj h).2
 have e5 := str_inj (List.cons.inj h).1; have h := (List.cons.inj h).2
 have e6 := Value.bool.inj (List.cons.inj h).1
 have e1 := (Value.int.inj e1).2
 have e2 := (Value.int.inj e2).2
 have e3 := (Value.int.inj e3).2
 obtain ⟨a1, a2, a3, ⟨a4, a5, a6⟩⟩ := a
 obtain ⟨b1, b2, b3, ⟨b4, b5, b6⟩⟩ := b
 simp only at e1 e2 e3 e4 e5 e6
 rw [e1, e2, e3, e4, e5, e6]
abbrev KLawC (P : Program) (K : TypeId) : Prop := KLaw P K eK Kr
structure KX (T : TypeId) (F D : Nat → Prop) (w : World) (b : Nat) (l : List COp) (κ : OKey) (m : List (OKey × Option Nat × Nat × Nat)) : Prop where
 mp : Mp eK eM w b m
 loc : F b ∧ ¬ D b
 own : ∀ p ∈ m, p.1 ≠ κ → Own encCo 8 T (fun _ => True) w (eM p.2) (withK l p.1)
 blk : ∀ p ∈ m, p.1 ≠ κ → ∃ g, p.2.1 = some g ∧ F g ∧ g ≠ b ∧ ¬ D g
 dis : ∀ p ∈ m, ∀ q ∈ m, p.1 ≠ κ → q.1 ≠ κ → p.1 ≠ q.1 → p.2.1 ≠ q.2.1
 key : ∀ κ', (∃ v, (κ', v) ∈ m) ↔ ∃ o ∈ l, o.key = κ'
 good : ∀ p ∈ m, Kr p.1
structure KMp (T : TypeId) (F : Nat → Prop) (w : World) (b : Nat) (l : List COp) (m : List (OKey × Option Nat × Nat × Nat)) : Prop where
 mp : Mp eK eM w b m
 loc : F b
 own : ∀ p ∈ m, Own encCo 8 T (fun _ => True) w (eM p.2) (withK l p.1)
 blk : ∀ p ∈ m, ∃ g, p.2.1 = some g ∧ F g ∧ g ≠ b
 dis : ∀ p ∈ m, ∀ q ∈ m, p.1 ≠ q.1 → p.2.1 ≠ q.2.1
 key : ∀ κ', (∃ v, (κ', v) ∈ m) ↔ ∃ o ∈ l, o.key = κ'
 good : ∀ p ∈ m, Kr p.1
def KM (T : TypeId) (F : Nat → Prop) (w : World) (b : Nat) (l : List COp) : Prop := ∃ m, KMp T F w b l m
section
variable {P : Program} {T K E TM : TypeId} {F D : Nat → Prop} {w w' : World} {b : Nat} {l : List COp} {κ : OKey} {m : List (OKey × Option Nat × Nat × Nat)}
theorem KM.lt (h : KM T F w b l) : b < w.heap.size := let ⟨_, h⟩ := h; h.mp.lt
theorem eM_blk {p : Option Nat × Nat × Nat} : (eM p).ownBlock = p.1 := by
 obtain ⟨o, n, c⟩ := p
 cases o <;> rfl
theorem KM.keep {γ : Prop} {D' : Nat → Prop} (h : KM T F w b l) (x : Bel γ D' w w') (hd : ∀ g, g < w.heap.size → F g → ¬ D' g) : KM T F w' b l := by
 obtain ⟨m, h⟩ := h
 refine ⟨m, h.mp.keep x (hd b h.mp.lt h.loc), h.loc, fun p hp => (h.own p hp).keep x fun g hg hv => ?_, h.blk, h.dis, h.key, h.good⟩
 obtain ⟨g', h1, h2, h3⟩ := h.blk p hp
 rw [eM_blk, h1] at hv
 obtain rfl : g' = g := by simpa using hv
 exact hd g' hg h2
theorem KM.ext {γ : Prop} (h : KM T F w b l) (x : Ext γ w w') : KM T F w' b l := h.keep x fun _ _ _ => id
theorem KM.mono {F' : Nat → Prop} (h : KM T F w b l) (hF : ∀ g, g < w.heap.size → F g → F' g) : KM T F' w b l := by
 obtain ⟨m, h⟩ := h
 refine ⟨m, h.mp, hF b h.mp.lt h.loc, h.own, fun p hp => ?_, h.dis, h.key, h.good⟩
 obtain ⟨g, h1, h2, h3⟩ := h.blk p hp
 exact ⟨g, h1, hF g ((h.own p hp).lt g (by rw [eM_blk, h1])) h2, h3⟩
theorem KM.nil (h : Mp eK eM w b []) (hb : F b) : KM T F w b [] := ⟨[], h, hb, by simp, by simp, by simp, by simp, by simp⟩
theorem KX.keep {γ : Prop} {D' : Nat → Prop} (h : KX T F D w b l κ m) (x : Bel γ D' w w') (hd : ∀ g, g < w.heap.size → D' g → D g) : KX T F D w' b l κ m := by
 refine ⟨h.mp.keep x fun q => h.loc.2 (hd b h.mp.lt q), h.loc, fun p hp hk => (h.own p hp hk).keep x fun g hg hv q => ?_, h.blk, h.dis, h.key, h.good⟩
 obtain ⟨g', h1, h2, h3, h4⟩ := h.blk p hp hk
 rw [eM_blk, h1] at hv
 obtain rfl : g' = g := by simpa using hv
 exact h4 (hd g' hg q)
theorem KX.ext {γ : Prop} (h : KX T F D w b l κ m) (x : Ext γ w w') : KX T F D w' b l κ m := h.keep x fun _ _ h => h.elim
theorem withK_nil {l : List COp} (h : ¬ ∃ o ∈ l, o.key = κ) : withK l κ = [] := by
 cases hw : withK l κ with
 | nil => rfl
 | cons o r => exact absurd (withK_ne.1 (by rw [hw]; simp)) h
structure LkAt (P : Program) (TM : TypeId) (w : World) (b : Nat) (κ : OKey) (v : Value) (has : Bool) : Prop where
 lt : b < w.heap.size
 run : ∀ w', w'.heap[b]? = w.heap[b]? → ∀ ok, (Instr.lookup TM (.map (some b)) (eK κ) ok).run P w' = .ok (if ok then .tuple #[v, .bool has] else v) w'
theorem LkAt.keep {γ : Prop} {D' : Nat → Prop} {v : Value} {has : Bool} (h : LkAt P TM w b κ v has) (x : Bel γ D' w w') (hd : ∀ g, g < w.heap.size → g = b → ¬ D' g) : LkAt P TM w' b κ v has :=
 ⟨Nat.lt_of_lt_of_le h.lt x.size, fun w2 h2 => h.run w2 (h2.trans (x.block b h.lt (hd b h.lt rfl)))⟩
theorem LkAt.ext {γ : Prop} {v : Value} {has : Bool} (h : LkAt P TM w b κ v has) (x : Ext γ w w') : LkAt P TM w' b κ v has := h.keep x fun _ _ _ => id
theorem KM.look (L : KLawC P K) (hT : P.underlying TM = some (.map K E)) (hz : ∀ w, (zeroValue E).run P w = .ok (.slice none 0 0) w) (n : Nat) (hn : n = w.heap.size) (h : KM T F w b l) (hk : Kr κ) :
  ∃ v m, LkAt P TM w b κ v (!(withK l κ).isEmpty) ∧ Own encCo 8 T (fun g => v.ownBlock = some g ∨ n ≤ g) w v (withK l κ) ∧ (∀ g, v.ownBlock = some g → F g ∧ g ≠ b) ∧ KX T F (fun g => v.ownBlock = some g ∨ n ≤ g) w b l κ m := by
 subst hn
 obtain ⟨m, h⟩ := h
 have hnd := h.mp.ndI eK_inj
 have hr : ∀ w', w'.heap[b]? = w.heap[b]? → ∀ ok, (Instr.lookup TM (.map (some b)) (eK κ) ok).run P w' = .ok (if ok then .tuple #[eM ((getM m κ).getD (none, 0, 0)), .bool (getM m κ).isSome] else eM ((getM m κ).getD (none, 0, 0))) w' := fun w' hb ok => by
  have hmp : Mp eK eM w' b m := let ⟨es, c, h1, h2⟩ := h.mp; ⟨es, c, hb.trans h1, h2⟩
  exact run_lookupK (z0 := (none, 0, 0)) (ok := ok) L hT (fun w => hz w) hmp h.good hk
 have hlb := h.mp.lt
 cases hg : getM m κ with
 | none =>
  have h0 : withK l κ = [] := withK_nil fun q => by
   obtain ⟨v, hv⟩ := (h.key κ).2 q
   exact getM_none hg v hv
  rw [hg] at hr
  refine ⟨.slice none 0 0, m, ⟨hlb, fun w' hb ok => by rw [h0]; exact hr w' hb ok⟩, by rw [h0]; exact Own.nil _ _, fun g hv => by simp [Value.ownBlock] at hv, h.mp, ⟨h.loc, fun q => ?_⟩, fun p hp _ => h.own p hp, fun p hp _ => ?_, fun p hp q hq _ _ => h.dis p hp q hq, h.key, h.good⟩
  ·rcases q with q | q
   ·simp [Value.ownBlock] at q
   ·omega
  ·obtain ⟨g, h1, h2, h3⟩ := h.blk p hp
   have hlt := (h.own p hp).lt g (by rw [eM_blk, h1])
   refine ⟨g, h1, h2, h3, fun q => ?_⟩
   rcases q with q | q
   ·simp [Value.ownBlock] at q
   ·omega
 | some p =>
  have hp := getM_mem hg
  rw [hg] at hr
  have hne : (withK l κ).isEmpty = false := by
   rw [List.isEmpty_eq_false_iff]
   exact withK_ne.2 ((h.key κ).1 ⟨p, hp⟩)
  obtain ⟨g, h1, h2, h3⟩ := h.blk _ hp
  have hb0 : (eM p).ownBlock = some g := by rw [eM_blk]; exact h1
  refine ⟨eM p, m, ⟨hlb, fun w' hb ok => by rw [hne]; exact hr w' hb ok⟩, (h.own _ hp).at fun g' _ hv => .inl hv, fun g' hv => ?_, h.mp, ⟨h.loc, fun q => ?_⟩, fun p hp _ => h.own p hp, fun q hq hqk => ?_, fun p hp q hq _ _ => h.dis p hp q hq, h.key, h.good⟩
  ·rw [hb0] at hv
   obtain rfl : g = g' := by simpa using hv
   exact ⟨h2, h3⟩
  ·rcases q with q | q
   ·rw [hb0] at q
    exact h3 (by simpa using q)
   ·omega
  ·obtain ⟨g', q1, q2, q3⟩ := h.blk q hq
   have hlt := (h.own q hq).lt g' (by rw [eM_blk, q1])
   refine ⟨g', q1, q2, q3, fun e => ?_⟩
   rcases e with e | e
   ·rw [hb0] at e
    obtain rfl : g = g' := by simpa using e
    exact h.dis q hq _ hp hqk (by rw [q1]; exact h1.symm)
   ·omega
theorem KM.read (L : KLawC P K) (hT : P.underlying TM = some (.map K E)) (hz : ∀ w, (zeroValue E).run P w = .ok (.slice none 0 0) w) (h : KM T F w b l) (hk : Kr κ) :
  ∃ a c, LkAt P TM w b κ (.slice a (withK l κ).length c) (!(withK l κ).isEmpty) ∧ Sl encCo 8 F w a c (withK l κ) := by
 obtain ⟨v, m, h1, h2, h3, _⟩ := h.look L hT hz _ rfl hk
 obtain ⟨a, c, rfl, h4⟩ := (h2.at (D' := F) fun g _ hv => (h3 g hv).1).sl encCo_ok
 exact ⟨a, c, h1, h4⟩
theorem withK_snoc {o : COp} : withK (l ++ [o]) κ = if o.key = κ then withK l κ ++ [o] else withK l κ := by
 unfold withK
 rw [List.filter_append]
 by_cases h : o.key = κ
 ·rw [if_pos h, List.filter_cons_of_pos (by simpa using h)]; rfl
 ·rw [if_neg h, List.filter_cons_of_neg (by simpa using h)]; simp
theorem KX.put (L : KLawC P K) (hT : P.underlying TM = some (.map K E)) {o : COp} {v : Value} (h : KX T F D w b l κ m) (hk : Kr κ) (ho : o.key = κ) (hv : Own encCo 8 T D w v (withK l κ ++ [o])) (hF : ∀ g, g < w.heap.size → D g → F g) :
  ∃ w', (Instr.mapUpdate TM (.map (some b)) (eK κ) v).run P w = .ok () w' ∧ Bel True (Only b) w w' ∧ KM T F w' b (l ++ [o]) := by
 obtain ⟨g, c, rfl⟩ := hv.sm (by simp)
 have hvb : (Value.slice (some ⟨g, 0, none⟩) (withK l κ ++ [o]).length c).ownBlock = some g := rfl
 have hDg : D g := hv.loc g hvb
 have hgl := hv.lt g hvb
 obtain ⟨w', h1, h2, h3⟩ := run_mputK (a := (some g, (withK l κ ++ [o]).length, c)) L hT h.mp h.good hk
 refine ⟨w', h1, h2, putM m κ (some g, (withK l κ ++ [o]).length, c), h3, h.loc.1, fun p hp => ?_, fun p hp => ?_, fun p hp q hq hne => ?_, fun κ' => ?_, fun p hp => ?_⟩
 ·rw [withK_snoc]
  rcases putM_mem hp with rfl | ⟨hp, hpk⟩
  ·rw [if_pos ho]
   refine Own.mono (hv.keep h2 fun g' hg' e => ?_) fun _ _ _ => trivial
   rw [hvb] at e
   obtain rfl : g = g' := by simpa using e
   exact fun q => h.loc.2 (by rw [← show g = b from q]; exact hDg)
  ·rw [if_neg (by rw [ho]; exact fun e => hpk e.symm)]
   obtain ⟨g', q1, q2, q3, q4⟩ := h.blk p hp hpk
   refine (h.own p hp hpk).keep h2 fun g'' _ e => ?_
   rw [eM_blk, q1] at e
   obtain rfl : g' = g'' := by simpa using e
   exact q3
 ·rcases putM_mem hp with rfl | ⟨hp, hpk⟩
  ·exact ⟨g, rfl, hF g hgl hDg, fun e => h.loc.2 (by rw [← e]; exact hDg)⟩
  ·obtain ⟨g', q1, q2, q3, q4⟩ := h.blk p hp hpk
   exact ⟨g', q1, q2, q3⟩
 ·rcases putM_mem hp with rfl | ⟨hp, hpk⟩
  ·rcases putM_mem hq with rfl | ⟨hq, hqk⟩
   ·exact absurd rfl hne
   ·obtain ⟨g', q1, q2, q3, q4⟩ := h.blk q hq hqk
    intro e
    rw [q1] at e
    obtain rfl : g = g' := by simpa using e
    exact q4 hDg
  ·rcases putM_mem hq with rfl | ⟨hq, hqk⟩
   ·obtain ⟨g', q1, q2, q3, q4⟩ := h.blk p hp hpk
    intro e
    rw [q1] at e
    obtain rfl : g' = g := by simpa using e
    exact q4 hDg
   ·exact h.dis p hp q hq hpk hqk hne
 ·constructor
  ·rintro ⟨v, hv⟩
   rcases putM_mem hv with e | ⟨hv, hvk⟩
   ·exact ⟨o, by simp, by rw [ho]; exact (congrArg Prod.fst e).symm⟩
   ·obtain ⟨o', h4, h5⟩ := (h.key κ').1 ⟨v, hv⟩
    exact ⟨o', by simp [h4], h5⟩
  ·rintro ⟨o', h4, h5⟩
   by_cases e : κ' = κ
   ·rw [e]; exact ⟨_, mem_putM.1⟩
   ·rcases List.mem_append.1 h4 with h4 | h4
    ·obtain ⟨v, hv⟩ := (h.key κ').2 ⟨o', h4, h5⟩
     exact ⟨v, mem_putM.2 _ hv e⟩
    ·have : o' = o := by simpa using h4
     exact absurd (by rw [← h5, this, ho]) e
 ·rcases putM_mem hp with rfl | ⟨hp, _⟩
  ·exact hk
  ·exact h.good p hp
variable {n : Nat} {rd : Option Nat} {Q : Fr → World → Prop} {fr : Fr} {ops : Array Oper} {rest : List Oper} {d : Option Nat} {t : TypeId} {ps : String} {af : Array Edge} {g : Option (Nat × Bool)} {x y z : Operand} {ok : Bool} {v : Value}
theorem o_klook {has : Bool} (h : LkAt P TM w b κ v has) (hx : ev fr x = .map (some b)) (hy : ev fr y = eK κ) :
  xop P fr w ⟨d, .lookup TM x y false, t, ps, af, g⟩ = .ok (.value v) w := by
 simp [xop, execOp, hx, hy, h.run w rfl]
theorem o_klook2 {has : Bool} (h : LkAt P TM w b κ v has) (hx : ev fr x = .map (some b)) (hy : ev fr y = eK κ) :
  xop P fr w ⟨d, .lookup TM x y true, t, ps, af, g⟩ = .ok (.value (.tuple #[v, .bool has])) w := by
 simp [xop, execOp, hx, hy, h.run w rfl]
theorem Rg_kput (hd : dstOk n d = true) (L : KLawC P K) (hT : P.underlying TM = some (.map K E)) {o : COp} (hx : ev fr x = .map (some b)) (hy : ev fr y = eK κ) (hz : ev fr z = v) (h : KX T F D w b l κ m) (hk : Kr κ) (ho : o.key = κ) (hv : Own encCo 8 T D w v (withK l κ ++ [o])) (hF : ∀ g, g < w.heap.size → D g → F g)
  (hc : ∀ w', Bel True (Only b) w w' → KM T F w' b (l ++ [o]) → Rg rd P n ops rest Q (fr.put d undef) w') : Rg rd P n ops (⟨d, .mapUpdate TM x y z, t, ps, af, none⟩ :: rest) Q fr w := by
 obtain ⟨w', h1, h2, h3⟩ := h.put L hT hk ho hv hF
 refine Rg_skip hd (w' := w') ?_ (hc w' h2 h3)
 simp [execOp, hx, hy, hz, h1]
end
end Go.Lx
/- The order of keys by signs; conflicts as they lie. Nothing of a program stands here. -/
namespace Go.Lx
open Go
def orQ : List Int → Int
 | [] => 0
 | x :: r => if x ≠ 0 then x else orQ r
theorem orQ_at {l : List Int} {k : Nat} (hk : k < l.length) (h : ∀ j, j < k → l.getD j 0 = 0) (hn : l.getD k 0 ≠ 0) : orQ l = l.getD k 0 := by
 induction l generalizing k with
 | nil => simp at hk
 | cons x r ih =>
  cases k with
  | zero => rw [orQ, if_pos (by simpa using hn)]; rfl
  | succ k =>
   have h0 : x = 0 := by simpa using h 0 (by omega)
   rw [orQ, if_neg (by simp [h0]), ih (by simpa using hk) (fun j hj => by simpa using h (j + 1) (by omega)) (by simpa using hn)]
   simp
theorem orQ_none {l : List Int} (h : ∀ j, j < l.length → l.getD j 0 = 0) : orQ l = 0 := by
 induction l with
 | nil => rfl
 | cons x r ih =>
  have h0 : x = 0 := by simpa using h 0 (by simp)
  rw [orQ, if_neg (by simp [h0]), ih (fun j hj => by simpa using h (j + 1) (by simpa using hj))]
def cmpKq (x y : OKey) : Int := orQ [cmpI x.k y.k, cmpI x.a y.a, cmpI x.b y.b, cmpM x.p y.p]
theorem cmpKq_sg (x y : OKey) : (cmpKq x y < 0 ↔ cmpK x y < 0) ∧ (cmpKq x y = 0 ↔ cmpK x y = 0) := by
 have hi : ∀ a b : Int, (a ≠ b → cmpI a b ≠ 0 ∧ (cmpI a b < 0 ↔ a - b < 0) ∧ (cmpI a b = 0 ↔ a - b = 0)) ∧ (a = b → cmpI a b = 0) := fun a b => by
  unfold cmpI
  constructor
  ·intro h
   by_cases h1 : a < b
   ·rw [if_pos h1]; omega
   ·rw [if_neg h1, if_pos (by omega)]; omega
  ·intro h
   rw [if_neg (by omega), if_neg (by omega)]
 unfold cmpKq cmpK
 simp only [orQ]
 by_cases h1 : x.k = y.k
 ·rw [if_neg (by rw [(hi _ _).2 h1]; simp), if_neg (c := x.k ≠ y.k) (by simpa using h1)]
  by_cases h2 : x.a = y.a
  ·rw [if_neg (by rw [(hi _ _).2 h2]; simp), if_neg (c := x.a ≠ y.a) (by simpa using h2)]
   by_cases h3 : x.b = y.b
   ·rw [if_neg (by rw [(hi _ _).2 h3]; simp), if_neg (c := x.b ≠ y.b) (by simpa using h3)]
    by_cases h4 : cmpM x.p y.p = 0
    ·rw [if_neg (by simpa using h4)]; omega
    ·rw [if_pos h4]; exact ⟨Iff.rfl, Iff.rfl⟩
   ·have := (hi x.b y.b).1 h3
    rw [if_pos this.1, if_pos (c := x.b ≠ y.b) h3]; exact this.2
  ·have := (hi x.a y.a).1 h2
   rw [if_pos this.1, if_pos (c := x.a ≠ y.a) h2]; exact this.2
 ·have := (hi x.k y.k).1 h1
  rw [if_pos this.1, if_pos (c := x.k ≠ y.k) h1]; exact this.2
theorem sortK_id {l m : List OKey} (hw : ∀ x ∈ l, Wk x) (ha : l.Pairwise fun x y => cmpK x y < 0) (hp : m.Perm l) (hs : m.Pairwise fun x y => cmpKq x y ≤ 0) : m = l := by
 have hm : ∀ x ∈ m, Wk x := fun x hx => hw x (hp.mem_iff.1 hx)
 have hnl : l.Nodup := by
  refine ha.imp_of_mem fun {a b} h1 h2 h e => ?_
  rw [e, cmpK_self (hw b h2)] at h; omega
 have hn : m.Nodup := hp.nodup_iff.2 hnl
 refine wk_unique hm hw ?_ ha fun x => hp.mem_iff
 have h2 := hs.and hn
 refine h2.imp_of_mem fun {a b} h1 h2 h => ?_
 have hq := cmpKq_sg a b
 rcases Int.lt_or_eq_of_le h.1 with h3 | h3
 ·exact hq.1.1 h3
 ·exact absurd (congrArg Subtype.val ((cmpK_is.eq ⟨a, hm a h1⟩ ⟨b, hm b h2⟩).1 (hq.2.1 h3))) h.2
def encCc (c : Cfl) : List Value := encCk c.κ ++ (encCo c.o ++ encCo c.t)
def encRc (c : Cfl) : List Value := encRk c.κ ++ (encRo c.o ++ encRo c.t)
theorem encCc_ok : EncOk encCc 22 := ⟨by decide, fun _ => rfl, fun x u hu => by
 simp only [encCc, List.mem_append] at hu
 rcases hu with h | h | h
 ·exact encCk_ok.one _ u h
 ·exact encCo_ok.one _ u h
 ·exact encCo_ok.one _ u h⟩
theorem encRc_ok : EncOk encRc 22 := ⟨by decide, fun _ => rfl, fun x u hu => by
 simp only [encRc, List.mem_append] at hu
 rcases hu with h | h | h
 ·exact encRk_ok.one _ u h
 ·exact encRo_ok.one _ u h
 ·exact encRo_ok.one _ u h⟩
theorem lastO_at {l : List COp} (h : l ≠ []) : l.getD (l.length - 1) coz = lastO l := by
 unfold lastO
 have h0 := List.length_pos_iff.2 h
 rw [List.getLastD_eq_getLast?, List.getLast?_eq_getElem?]
 rfl
def KmIs (T : TypeId) (n : Nat) (l : List COp) (F : Nat → Prop) (v : Value) (w : World) : Prop := (∀ g, F g → n ≤ g) ∧ ∃ b, v = .map (some b) ∧ KM T F w b l
theorem KmIs.keepS (T : TypeId) (n : Nat) (l : List COp) : KeepS (KmIs T n l) := fun F v γ D w w' x hd ⟨h1, b, h2, h3⟩ => ⟨h1, b, h2, h3.keep x hd⟩
theorem wrap_k8 {n : Int} (h0 : 0 ≤ n) (h1 : n ≤ 255) : IntKind.u8.wrap n = n := by
 obtain ⟨m, rfl⟩ := Int.eq_ofNat_of_zero_le h0
 simp [IntKind.wrap, IntKind.bits, IntKind.signed]
 omega
theorem takeD {α : Type} {l : List α} {k : Nat} {z : α} (h : k < l.length) : l.take (k + 1) = l.take k ++ [l.getD k z] := by
 rw [List.take_succ_eq_append_getElem h, show l[k] = l.getD k z by simp [List.getD, h]]
theorem compF_len {α : Type} [BEq α] : ∀ (l acc : List α), (l.foldl compStep acc).length ≤ acc.length + l.length
 | [], acc => by simp
 | x :: r, acc => by
  have h := compF_len r (compStep acc x)
  have h2 : (compStep acc x).length ≤ acc.length + 1 := by unfold compStep; split <;> simp
  simp only [List.foldl_cons, List.length_cons]; omega
theorem keysO_len (l : List COp) : (keysO l).length ≤ l.length := by
 have h := compF_len (l.map COp.key) []
 simpa [keysO, compL] using h
theorem filt_succ {α : Type} {p : α → Bool} {l : List α} {k : Nat} {z : α} (h : k < l.length) : (l.take (k + 1)).filter p = (l.take k).filter p ++ (if p (l.getD k z) = true then [l.getD k z] else []) := by
 rw [takeD (z := z) h, List.filter_append]
 congr 1
 by_cases hp : p (l.getD k z) = true
 ·rw [if_pos hp, List.filter_cons_of_pos hp]; rfl
 ·rw [if_neg hp, List.filter_cons_of_neg hp]; rfl
theorem flat_succ {α β : Type} {p : α → Bool} {f : α → List β} {l : List α} {k : Nat} {z : α} (h : k < l.length) : ((l.take (k + 1)).filter p).flatMap f = ((l.take k).filter p).flatMap f ++ (if p (l.getD k z) = true then f (l.getD k z) else []) := by
 rw [filt_succ (z := z) h, List.flatMap_append]
 congr 1
 split <;> simp
theorem flat_le {l : List COp} (h : VS l) (p : OKey → Bool) (k : Nat) : ((((keysO l).take k).filter p).flatMap (withK l)).length ≤ l.length := by
 have h1 := flat_keys h p
 rw [← List.take_append_drop k (keysO l), List.filter_append, List.flatMap_append] at h1
 have h2 := congrArg List.length h1
 rw [List.length_append] at h2
 have h3 : ((l.filter fun o => p o.key)).length ≤ l.length := List.length_filter_le _ _
 omega
theorem isE_no {α : Type} {l : List α} (h : ¬ l = []) : l.isEmpty = false := by
 rw [List.isEmpty_eq_false_iff]; exact h
theorem isE_yes {α : Type} {l : List α} (h : l = []) : l.isEmpty = true := by rw [h]; rfl
theorem good_a {A B : List COp} {κ : OKey} (h : withK B κ = []) : goodB A B κ = true := good_iff.2 (.inl h)
theorem good_b {A B : List COp} {κ : OKey} (h : (withK B κ == withK A κ) = true) : goodB A B κ = true := good_iff.2 (.inr (eq_of_beq h).symm)
theorem good_c {A B : List COp} {κ : OKey} (h0 : ¬ withK B κ = []) (h : (withK B κ == withK A κ) = false) : goodB A B κ = false := by
 rw [← Bool.not_eq_true, good_iff]
 rintro (h1 | h1)
 ·exact h0 h1
 ·rw [h1] at h; simp at h
def encBl (x : Bool) : List Value := [.bool x]
theorem encBl_ok : EncOk encBl 1 := ⟨by decide, fun _ => rfl, fun x u hu => by simp [encBl] at hu; subst hu; rfl⟩
def commO (A B : List COp) : Bool := !(keysO B).any fun κ => !(withK A κ).isEmpty
theorem bad_len (A B : List COp) : (badK A B).length ≤ A.length := Nat.le_trans (List.length_filter_le _ _) (keysO_len A)
theorem both_len (A B : List COp) : (bothO A B).length ≤ A.length + B.length := by
 have h1 : (A.filter fun o => goodB A B o.key).length ≤ A.length := List.length_filter_le _ _
 have h2 : (B.filter fun o => (withK A o.key).isEmpty).length ≤ B.length := List.length_filter_le _ _
 unfold bothO; rw [List.length_append]; omega
theorem map_succ {α β : Type} {f : α → β} {l : List α} {k : Nat} {z : α} (h : k < l.length) : (l.take (k + 1)).map f = (l.take k).map f ++ [f (l.getD k z)] := by
 rw [takeD (z := z) h, List.map_append]; rfl
theorem withK_len (A : List COp) (κ : OKey) : (withK A κ).length ≤ A.length := List.length_filter_le _ _
theorem pick_len {A B : List COp} : ∀ (L : List OKey) (c : List Bool), (pickO A B L c).length ≤ L.length * (A.length + B.length)
 | [], _ => by simp [pickO]
 | _ :: _, [] => by simp [pickO]
 | κ :: r, c :: s => by
  have ih := pick_len (A := A) (B := B) r s
  have h1 := withK_len A κ
  have h2 := withK_len B κ
  simp only [pickO, List.length_append, List.length_cons, Nat.add_mul]
  split <;> omega
theorem pick_vo {A B : List COp} (hA : VS A) (hB : VS B) {L : List OKey} {c : List Bool} : ∀ o ∈ pickO A B L c, Vo o := fun o ho => by
 rcases (pickO_mem ho).2 with h | h
 ·exact hA.v o h
 ·exact hB.v o h
theorem len_ne {α : Type} {l : List α} (h : ¬ l = []) : ((l.length : Int) == 0) = false := by
 rw [beq_eq_false_iff_ne]
 have := List.length_pos_iff.2 h
 omega
theorem withK_take {l : List COp} {κ : OKey} {k : Nat} (h : k < l.length) : withK (l.take (k + 1)) κ = if (l.getD k coz).key = κ then withK (l.take k) κ ++ [l.getD k coz] else withK (l.take k) κ := by
 rw [takeD (z := coz) h, withK_snoc]
theorem good_b' {A B : List COp} {κ : OKey} (h : (withK A κ == withK B κ) = true) : goodB A B κ = true := good_iff.2 (.inr (eq_of_beq h))
theorem good_c' {A B : List COp} {κ : OKey} (h0 : ¬ withK B κ = []) (h : (withK A κ == withK B κ) = false) : goodB A B κ = false := by
 rw [← Bool.not_eq_true, good_iff]
 rintro (h1 | h1)
 ·exact h0 h1
 ·rw [h1] at h; simp at h
theorem fst_iff {l : List COp} {o : COp} : isFst l o = (o == (withK l o.key).getD 0 coz) := by
 unfold isFst
 rw [Bool.eq_iff_iff, decide_eq_true_iff, beq_iff_eq]
 cases withK l o.key <;> rfl
theorem cfl_fst {A B : List COp} (hA : VS A) : (A.filter fun o => !goodB A B o.key && isFst A o).map (fun o => mkC A B o.key) = cflO A B := by
 have h := congrArg (List.map (mkC A B)) (fst_keys hA fun κ => !goodB A B κ)
 rw [List.map_map] at h
 exact h
theorem mkC_at {A B : List COp} {κ : OKey} (h1 : withK A κ ≠ []) (h2 : withK B κ ≠ []) : (⟨κ, (withK A κ).getD ((withK A κ).length - 1) coz, (withK B κ).getD ((withK B κ).length - 1) coz⟩ : Cfl) = mkC A B κ := by
 unfold mkC; rw [lastO_at h1, lastO_at h2]
theorem res_perm {A B : List COp} (hA : VS A) (hB : VS B) {c : List Bool} (h : c.length = (badK A B).length) : ofO (sortO (bothO A B) ++ pickO A B (badK A B) c) = resolveO A B c := by
 rw [resolveO, if_neg (by omega)]
 refine of_perm (fun x hx => ?_) ((sortO_perm _).append_right _)
 rcases List.mem_append.1 hx with h | h
 ·exact both_vo hA hB x ((sortO_perm _).mem_iff.1 h)
 ·exact pick_vo hA hB x h
theorem mem_with {l : List COp} {k : Nat} (h : k < l.length) : withK l (l.getD k coz).key ≠ [] := withK_ne.2 ⟨_, gm h, rfl⟩
theorem mapf_succ {α β : Type} {p : α → Bool} {f : α → β} {l : List α} {k : Nat} {z : α} (h : k < l.length) : ((l.take (k + 1)).filter p).map f = ((l.take k).filter p).map f ++ (if p (l.getD k z) = true then [f (l.getD k z)] else []) := by
 rw [filt_succ (z := z) h, List.map_append]
 congr 1
 split <;> rfl
end Go.Lx
