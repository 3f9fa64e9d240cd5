/- Several texts in one file. -/
import Derived.Test.YtdnkjdmfnmdpdaaGreatDoorNorm
import Derived.Test.YtdnkjdmfnmdpdaaGreatDoorGr
import Derived.Test.YtdnkjdmfnmdpdaaGreatDoorOwn3
import Derived.Maps.Keyed
import Derived.DeepKeys4
import Derived.Test.YtdnkjdmfnmdpdaaGreatDoorSe
import Derived.Test.YtdnkjdmfnmdpdaaGreatDoorOwn
set_option linter.unusedSimpArgs false
set_option linter.unusedVariables false
set_option linter.unnecessarySimpa false
set_option linter.unusedSectionVars false
/- Ops and sets of ops: their keys, their errors, their order. Nothing of a program stands here. -/
namespace Go.Lx
open Go
structure OKey where
 k : Int
 a : Int
 b : Int
 p : Perm
 deriving DecidableEq
structure COp where
 add : Bool
 k : Int
 a : Int
 b : Int
 u : Int
 p : Perm
 deriving DecidableEq
def COp.key (o : COp) : OKey := ⟨o.k, o.a, o.b, o.p⟩
def encRo (o : COp) : List Value := [.bool o.add, .int .i64 o.k, .int .i64 o.a, .int .i64 o.b, .int .i64 o.u, str o.p.act, str o.p.path, .bool o.p.deep]
def encCo (o : COp) : List Value := [.bool o.add, .int .u8 o.k, .int .i64 o.a, .int .i64 o.b, .int .i64 o.u, str o.p.act, str o.p.path, .bool o.p.deep]
def encRk (o : OKey) : List Value := [.int .i64 o.k, .int .i64 o.a, .int .i64 o.b, str o.p.act, str o.p.path, .bool o.p.deep]
def encCk (o : OKey) : List Value := [.int .u8 o.k, .int .i64 o.a, .int .i64 o.b, str o.p.act, str o.p.path, .bool o.p.deep]
theorem ZV : EncOk encRo 8 := ⟨by decide, fun _ => rfl, fun x u hu => by
 simp [encRo] at hu
 rcases hu with rfl | rfl | rfl | rfl | rfl | rfl | rfl | rfl <;> rfl⟩
theorem encCo_ok : EncOk encCo 8 := ⟨by decide, fun _ => rfl, fun x u hu => by
 simp [encCo] at hu
 rcases hu with rfl | rfl | rfl | rfl | rfl | rfl | rfl | rfl <;> rfl⟩
theorem encCk_ok : EncOk encCk 6 := ⟨by decide, fun _ => rfl, fun x u hu => by
 simp [encCk] at hu
 rcases hu with rfl | rfl | rfl | rfl | rfl | rfl <;> rfl⟩
def coz : COp := ⟨false, 0, 0, 0, 0, pz⟩
def okz : OKey := ⟨0, 0, 0, pz⟩
def checkO (o : COp) : Int :=
 if o.k < 1 ∨ 3 < o.k then 1 else
 if (o.k ≠ 2 ∧ o.p ≠ pz) ∨ (o.k ≠ 1 ∧ o.u ≠ 0) ∨ (o.k = 2 ∧ o.b ≠ 0) then 6 else
 if o.k = 1 then (if o.a < 1 ∨ 256 < o.a ∨ o.b < 1 ∨ 63 < o.b ∨ o.u < 0 ∨ 30000 < o.u then 2 else 0) else
 if o.k = 2 then (if o.a < 1 ∨ 63 < o.a then 2 else checkS o.p) else
 if o.a < 1 ∨ 63 < o.a ∨ o.b < 1 ∨ 63 < o.b then 2 else if o.a = o.b then 6 else 0
structure Vo (o : COp) : Prop where
 ok : o.p.ok
 chk : checkO o = 0
theorem Vo.rng {o : COp} (h : Vo o) : 1 ≤ o.k ∧ o.k ≤ 3 ∧ 1 ≤ o.a ∧ o.a ≤ 256 ∧ 0 ≤ o.b ∧ o.b ≤ 63 ∧ 0 ≤ o.u ∧ o.u ≤ 30000 := by
 have h1 := h.chk
 unfold checkO at h1
 by_cases c1 : o.k < 1 ∨ 3 < o.k
 ·rw [if_pos c1] at h1; omega
 rw [if_neg c1] at h1
 by_cases c2 : (o.k ≠ 2 ∧ o.p ≠ pz) ∨ (o.k ≠ 1 ∧ o.u ≠ 0) ∨ (o.k = 2 ∧ o.b ≠ 0)
 ·rw [if_pos c2] at h1; omega
 rw [if_neg c2] at h1
 by_cases c3 : o.k = 1
 ·rw [if_pos c3] at h1
  by_cases c4 : o.a < 1 ∨ 256 < o.a ∨ o.b < 1 ∨ 63 < o.b ∨ o.u < 0 ∨ 30000 < o.u
  ·rw [if_pos c4] at h1; omega
  ·omega
 rw [if_neg c3] at h1
 have cu : o.u = 0 := by
  refine Classical.byContradiction fun hn => c2 (.inr (.inl ⟨c3, hn⟩))
 by_cases c5 : o.k = 2
 ·rw [if_pos c5] at h1
  have cb : o.b = 0 := Classical.byContradiction fun hn => c2 (.inr (.inr ⟨c5, hn⟩))
  by_cases c6 : o.a < 1 ∨ 63 < o.a
  ·rw [if_pos c6] at h1; omega
  ·omega
 rw [if_neg c5] at h1
 by_cases c7 : o.a < 1 ∨ 63 < o.a ∨ o.b < 1 ∨ 63 < o.b
 ·rw [if_pos c7] at h1; omega
 ·omega
theorem Vo.perm {o : COp} (h : Vo o) : o.p = pz ∨ Vp o.p := by
 have h1 := h.chk
 have hr := h.rng
 unfold checkO at h1
 rw [if_neg (by omega)] at h1
 by_cases c2 : (o.k ≠ 2 ∧ o.p ≠ pz) ∨ (o.k ≠ 1 ∧ o.u ≠ 0) ∨ (o.k = 2 ∧ o.b ≠ 0)
 ·rw [if_pos c2] at h1; omega
 rw [if_neg c2] at h1
 by_cases c5 : o.k = 2
 ·rw [if_neg (by omega), if_pos c5] at h1
  by_cases c6 : o.a < 1 ∨ 63 < o.a
  ·rw [if_pos c6] at h1; omega
  ·rw [if_neg c6] at h1; exact .inr ⟨h.ok, h1⟩
 ·exact .inl (Classical.byContradiction fun hn => c2 (.inl ⟨c5, hn⟩))
def cmpK (x y : OKey) : Int := if x.k ≠ y.k then x.k - y.k else if x.a ≠ y.a then x.a - y.a else if x.b ≠ y.b then x.b - y.b else cmpM x.p y.p
def cmpO (x y : COp) : Int := if cmpK x.key y.key ≠ 0 then cmpK x.key y.key else if x.add = y.add then 0 else if y.add then -1 else 1
abbrev WP := { x : Perm // x = pz ∨ Vp x }
theorem cmpS_nil {s : Str} (h : s ≠ []) : cmpS [] s = -1 ∧ cmpS s [] = 1 := by
 have h1 : cmpS s [] ≠ 0 := fun e => h ((cmpS_is.eq _ _).1 e)
 have h2 : Op.bytesLess s [] = false := by cases s <;> rfl
 have h3 := cmpS_cases s []
 have h4 : cmpS s [] = 1 := by
  rcases h3 with ⟨_, e⟩ | ⟨e, _⟩ | ⟨e, _⟩
  ·rw [h2] at e; cases e
  ·exact absurd e h1
  ·exact e
 exact ⟨by rw [cmpS_is.anti s [], h4], h4⟩
theorem Vp.act {x : Perm} (h : Vp x) : x.act ≠ [] := fun e => by
 have h1 := h.2
 unfold checkS at h1
 rw [e] at h1
 simp [nmS] at h1
theorem cmpM_pz {x : Perm} (h : Vp x) : cmpM pz x = -1 ∧ cmpM x pz = 1 := by
 obtain ⟨h1, h2⟩ := cmpS_nil h.act
 constructor
 ·show (if cmpS [] x.act != 0 then cmpS [] x.act else _) = _
  rw [h1]; rfl
 ·show (if cmpS x.act [] != 0 then cmpS x.act [] else _) = _
  rw [h2]; rfl
theorem cmpM_pp : cmpM pz pz = 0 := by decide +kernel
theorem not_vp : ¬ Vp pz := fun h => h.act rfl
theorem cmpW_is : IsCmp fun a b : WP => cmpM a.1 b.1 := by
 refine ⟨?_, ?_, ?_⟩
 ·rintro ⟨a, rfl | ha⟩ ⟨b, rfl | hb⟩
  ·exact ⟨fun _ => rfl, fun _ => cmpM_pp⟩
  ·constructor
   ·intro e; simp only [(cmpM_pz hb).1] at e; omega
   ·intro e; have := Subtype.mk.inj e; subst this; exact absurd hb not_vp
  ·constructor
   ·intro e; simp only [(cmpM_pz ha).2] at e; omega
   ·intro e; have := Subtype.mk.inj e; subst this; exact absurd ha not_vp
  ·have := cmpV_is.eq ⟨a, ha⟩ ⟨b, hb⟩
   simp only [Subtype.mk.injEq] at this ⊢
   exact this
 ·rintro ⟨a, rfl | ha⟩ ⟨b, rfl | hb⟩
  ·simp only [cmpM_pp]; rfl
  ·simp only [(cmpM_pz hb).1, (cmpM_pz hb).2]; rfl
  ·simp only [(cmpM_pz ha).1, (cmpM_pz ha).2]
  ·exact cmpV_is.anti ⟨a, ha⟩ ⟨b, hb⟩
 ·rintro ⟨a, rfl | ha⟩ ⟨b, rfl | hb⟩ ⟨c, rfl | hc⟩ h1 h2
  ·simp only [cmpM_pp] at h1; omega
  ·exact h2
  ·simp only [(cmpM_pz hb).2] at h2; omega
  ·simp only [(cmpM_pz hc).1]; omega
  ·simp only [(cmpM_pz ha).2] at h1; omega
  ·simp only [(cmpM_pz ha).2] at h1; omega
  ·simp only [(cmpM_pz hb).2] at h2; omega
  ·exact cmpV_is.tr ⟨a, ha⟩ ⟨b, hb⟩ ⟨c, hc⟩ h1 h2
def cmpD (a b : Int) : Int := a - b
theorem cmpD_is : IsCmp cmpD := ⟨fun a b => by unfold cmpD; omega, fun a b => by unfold cmpD; omega, fun a b c => by unfold cmpD; omega⟩
def Wk (x : OKey) : Prop := x.p = pz ∨ Vp x.p
abbrev WK := { x : OKey // Wk x }
def keyK (x : WK) : Int × Int × Int × WP := (x.1.k, x.1.a, x.1.b, ⟨x.1.p, x.2⟩)
theorem cmpK_lex (x y : WK) : cmpK x.1 y.1 = lex cmpD (lex cmpD (lex cmpD fun a b : WP => cmpM a.1 b.1)) (keyK x) (keyK y) := by
 simp only [cmpK, lex, keyK, cmpD]
 by_cases h1 : x.1.k = y.1.k
 ·by_cases h2 : x.1.a = y.1.a
  ·by_cases h3 : x.1.b = y.1.b
   ·simp [h1, h2, h3]
   ·have : ¬ x.1.b - y.1.b = 0 := by omega
    simp [h1, h2, h3, this]
  ·have : ¬ x.1.a - y.1.a = 0 := by omega
   simp [h1, h2, this]
 ·have : ¬ x.1.k - y.1.k = 0 := by omega
  simp [h1, this]
theorem cmpK_is : IsCmp fun a b : WK => cmpK a.1 b.1 := by
 have h := (lex_is cmpD_is (lex_is cmpD_is (lex_is cmpD_is cmpW_is))).map keyK (fun a b e => by
  obtain ⟨⟨k1, a1, b1, p1⟩, ha⟩ := a
  obtain ⟨⟨k2, a2, b2, p2⟩, hb⟩ := b
  simp only [keyK, Prod.mk.injEq, Subtype.mk.injEq] at e
  obtain ⟨rfl, rfl, rfl, e4⟩ := e
  have e5 := Subtype.mk.inj e4
  subst e5
  rfl)
 have e : (fun a b : WK => cmpK a.1 b.1) = fun a b : WK => lex cmpD (lex cmpD (lex cmpD fun a b : WP => cmpM a.1 b.1)) (keyK a) (keyK b) := by
  funext a b; exact cmpK_lex a b
 rw [e]; exact h
def Wo (x : COp) : Prop := Wk x.key
theorem Vo.wo {o : COp} (h : Vo o) : Wo o := h.perm
section
variable {x y z : COp}
theorem cmpK_eq (hx : Wo x) (hy : Wo y) : cmpK x.key y.key = 0 ↔ x.key = y.key := by
 have := cmpK_is.eq ⟨x.key, hx⟩ ⟨y.key, hy⟩
 exact this.trans ⟨fun e => congrArg Subtype.val e, fun e => Subtype.ext e⟩
theorem cmpK_anti (hx : Wo x) (hy : Wo y) : cmpK y.key x.key = - cmpK x.key y.key := cmpK_is.anti ⟨x.key, hx⟩ ⟨y.key, hy⟩
def cmpF (x y : COp) : Int := if cmpO x y ≠ 0 then cmpO x y else x.u - y.u
abbrev WO := { x : COp // Wo x }
def keyF (x : WO) : WK × Bool × Int := (⟨x.1.key, x.2⟩, x.1.add, x.1.u)
theorem cmpO_lex (x y : WO) : cmpO x.1 y.1 = lex (fun a b : WK => cmpK a.1 b.1) cmpB ((keyF x).1, (keyF x).2.1) ((keyF y).1, (keyF y).2.1) := by
 simp only [cmpO, lex, keyF, cmpB]
 by_cases h1 : cmpK x.1.key y.1.key = 0
 ·by_cases h2 : x.1.add = y.1.add <;> (simp [h1, h2] <;> rfl)
 ·simp [h1]
theorem cmpF_lex (x y : WO) : cmpF x.1 y.1 = lex (fun a b : WK => cmpK a.1 b.1) (lex cmpB cmpD) (keyF x) (keyF y) := by
 rw [cmpF, cmpO_lex]
 simp only [lex, keyF, cmpD]
 by_cases h1 : cmpK x.1.key y.1.key = 0
 ·by_cases h2 : cmpB x.1.add y.1.add = 0
  ·simp [h1, h2]
  ·simp [h1, h2]
 ·simp [h1]
theorem cmpF_is : IsCmp fun a b : WO => cmpF a.1 b.1 := by
 have h := (lex_is cmpK_is (lex_is cmpB_is cmpD_is)).map keyF (fun a b e => by
  obtain ⟨⟨d1, k1, a1, b1, u1, p1⟩, ha⟩ := a
  obtain ⟨⟨d2, k2, a2, b2, u2, p2⟩, hb⟩ := b
  simp only [keyF, Prod.mk.injEq, Subtype.mk.injEq, COp.key, OKey.mk.injEq] at e
  obtain ⟨⟨rfl, rfl, rfl, rfl⟩, rfl, rfl⟩ := e
  rfl)
 have e : (fun a b : WO => cmpF a.1 b.1) = fun a b : WO => lex (fun a b : WK => cmpK a.1 b.1) (lex cmpB cmpD) (keyF a) (keyF b) := by
  funext a b; exact cmpF_lex a b
 rw [e]; exact h
theorem cmpO_eq (hx : Wo x) (hy : Wo y) : cmpO x y = 0 ↔ x.key = y.key ∧ x.add = y.add := by
 unfold cmpO
 rw [← cmpK_eq hx hy]
 by_cases h : cmpK x.key y.key = 0
 ·rw [if_neg (by simpa using h)]
  by_cases h2 : x.add = y.add
  ·rw [if_pos h2]; exact ⟨fun _ => ⟨h, h2⟩, fun _ => rfl⟩
  ·rw [if_neg h2]
   constructor
   ·intro e; split at e <;> omega
   ·intro e; exact absurd e.2 h2
 ·rw [if_pos h]; exact ⟨fun e => absurd e h, fun e => absurd e.1 h⟩
theorem cmpO_anti (hx : Wo x) (hy : Wo y) : cmpO y x = - cmpO x y := by
 rw [cmpO_lex ⟨y, hy⟩ ⟨x, hx⟩, cmpO_lex ⟨x, hx⟩ ⟨y, hy⟩]
 exact (lex_is cmpK_is cmpB_is).anti _ _
theorem cmpO_tr (hx : Wo x) (hy : Wo y) (hz : Wo z) (h : cmpO x y < 0) (h2 : cmpO y z < 0) : cmpO x z < 0 := by
 rw [cmpO_lex ⟨x, hx⟩ ⟨y, hy⟩] at h
 rw [cmpO_lex ⟨y, hy⟩ ⟨z, hz⟩] at h2
 rw [cmpO_lex ⟨x, hx⟩ ⟨z, hz⟩]
 exact (lex_is cmpK_is cmpB_is).tr _ _ _ h h2
theorem cmpO_le_K (h : cmpO x y ≤ 0) : cmpK x.key y.key ≤ 0 := by
 unfold cmpO at h
 by_cases h1 : cmpK x.key y.key = 0
 ·omega
 ·rw [if_pos h1] at h; exact h
theorem cmpO_same (h : cmpO x y ≤ 0) (hk : cmpK x.key y.key = 0) : x.add = y.add ∨ (x.add = false ∧ y.add = true) := by
 unfold cmpO at h
 rw [if_neg (by simpa using hk)] at h
 cases hx : x.add <;> cases hy : y.add <;> simp [hx, hy] at h ⊢
end
def confl (x y : COp) : Bool := decide (x.key = y.key) && (x.k != 1 || x.add == y.add || x.u == y.u)
theorem confl_symm (x y : COp) : confl x y = confl y x := by
 unfold confl
 by_cases h : x.key = y.key
 ·have hk : x.k = y.k := congrArg OKey.k h
  rw [decide_eq_true h, decide_eq_true h.symm, hk]
  have e1 : (x.add == y.add) = (y.add == x.add) := by rw [Bool.eq_iff_iff, beq_iff_eq, beq_iff_eq]; exact ⟨Eq.symm, Eq.symm⟩
  have e2 : (x.u == y.u) = (y.u == x.u) := by rw [Bool.eq_iff_iff, beq_iff_eq, beq_iff_eq]; exact ⟨Eq.symm, Eq.symm⟩
  rw [e1, e2]
 ·rw [decide_eq_false h, decide_eq_false (fun e => h e.symm)]; rfl
def CF (l : List COp) : Prop := l.Pairwise fun x y => confl x y = false
instance (l : List COp) : Decidable (CF l) := inferInstanceAs (Decidable (l.Pairwise _))
theorem CF.perm {l m : List COp} (h : CF l) (hp : l.Perm m) : CF m := (hp.pairwise_iff (fun {a b} e => by rw [confl_symm]; exact e)).1 h
theorem confl_no {x y : COp} (h : confl x y = false) (hk : x.key = y.key) : x.k = 1 ∧ x.add ≠ y.add ∧ x.u ≠ y.u := by
 unfold confl at h
 rw [decide_eq_true hk, Bool.true_and, Bool.or_eq_false_iff, Bool.or_eq_false_iff] at h
 exact ⟨by simpa using h.1.1, by simpa using h.1.2, by simpa using h.2⟩
def sortO (l : List COp) : List COp := l.foldl (fun acc o => insGo cmpO o acc) []
section
variable {α : Type} {f : α → α → Int}
theorem insGo_perm (p : α) : ∀ (l : List α), (insGo f p l).Perm (p :: l)
 | [] => List.Perm.refl _
 | y :: r => by
  unfold insGo
  split
  ·exact List.Perm.refl _
  ·exact ((insGo_perm p r).cons y).trans (List.Perm.swap _ _ _)
theorem insF_perm : ∀ (l acc : List α), (l.foldl (fun acc o => insGo f o acc) acc).Perm (l ++ acc)
 | [], acc => List.Perm.refl _
 | x :: r, acc => by
  refine (insF_perm r (insGo f x acc)).trans ?_
  exact ((insGo_perm x acc).append_left r).trans List.perm_middle
end
theorem sortO_perm (l : List COp) : (sortO l).Perm l := by
 have := insF_perm (f := cmpO) l []
 rwa [List.append_nil] at this
theorem insGo_le {p : COp} (hp : Wo p) : ∀ {l : List COp}, (∀ x ∈ l, Wo x) → l.Pairwise (fun x y => cmpO x y ≤ 0) → (insGo cmpO p l).Pairwise (fun x y => cmpO x y ≤ 0)
 | [], _, _ => by simp [insGo]
 | y :: r, hw, hl => by
  obtain ⟨h1, h2⟩ := List.pairwise_cons.1 hl
  have hy := hw y (by simp)
  unfold insGo
  split
  ·rename_i hlt
   refine List.pairwise_cons.2 ⟨fun z hz => ?_, hl⟩
   rcases List.mem_cons.1 hz with rfl | hz
   ·omega
   ·have hzw := hw z (by simp [hz])
    have hyz := h1 z hz
    rcases Int.lt_or_eq_of_le hyz with h3 | h3
    ·have := cmpO_tr hp hy hzw hlt h3; omega
    ·-- y and z stand alike
     have e1 := (cmpO_eq hy hzw).1 h3
     have : cmpO p z = cmpO p y := by
      unfold cmpO
      rw [e1.1, e1.2]
     omega
  ·rename_i hge
   refine List.pairwise_cons.2 ⟨fun z hz => ?_, insGo_le hp (fun x hx => hw x (by simp [hx])) h2⟩
   rcases insGo_mem.1 hz with rfl | hz
   ·have := cmpO_anti hp hy; omega
   ·exact h1 z hz
theorem insF_le : ∀ (l acc : List COp), (∀ x ∈ l, Wo x) → (∀ x ∈ acc, Wo x) → acc.Pairwise (fun x y => cmpO x y ≤ 0) → (l.foldl (fun acc o => insGo cmpO o acc) acc).Pairwise (fun x y => cmpO x y ≤ 0)
 | [], acc, _, _, h => h
 | x :: r, acc, hl, ha, h => by
  refine insF_le r (insGo cmpO x acc) (fun z hz => hl z (by simp [hz])) (fun z hz => ?_) (insGo_le (hl x (by simp)) ha h)
  rcases insGo_mem.1 hz with rfl | hz
  ·exact hl z (by simp)
  ·exact ha z hz
theorem sortO_le {l : List COp} (hl : ∀ x ∈ l, Wo x) : (sortO l).Pairwise (fun x y => cmpO x y ≤ 0) := insF_le l [] hl (by simp) List.Pairwise.nil
theorem le_lt {l : List COp} (hl : ∀ x ∈ l, Wo x) (hc : CF l) (h : l.Pairwise fun x y => cmpO x y ≤ 0) : l.Pairwise fun x y => cmpO x y < 0 := by
 refine (h.and hc).imp_of_mem fun {x y} hx hy hh => ?_
 rcases Int.lt_or_eq_of_le hh.1 with h3 | h3
 ·exact h3
 ·have e := (cmpO_eq (hl x hx) (hl y hy)).1 h3
  exact absurd e.2 (confl_no hh.2 e.1).2.1
theorem lt_cmpF {x y : COp} (h : cmpO x y < 0) : cmpF x y < 0 := by
 unfold cmpF; rw [if_pos (by omega)]; exact h
def woL : (l : List COp) → (∀ x ∈ l, Wo x) → List WO
 | [], _ => []
 | x :: r, h => ⟨x, h x (by simp)⟩ :: woL r (fun y hy => h y (by simp [hy]))
theorem woL_map : ∀ (l : List COp) (h : ∀ x ∈ l, Wo x), (woL l h).map (·.1) = l
 | [], _ => rfl
 | x :: r, h => by simp [woL, woL_map r]
theorem lt_unique {a b : List COp} (ha : ∀ x ∈ a, Wo x) (hb : ∀ x ∈ b, Wo x) (h1 : a.Pairwise fun x y => cmpO x y < 0) (h2 : b.Pairwise fun x y => cmpO x y < 0) (hm : ∀ x, x ∈ a ↔ x ∈ b) : a = b := by
 have e : woL a ha = woL b hb := by
  refine pw_unique cmpF_is ?_ ?_ ?_
  ·rw [← List.pairwise_map (f := fun x : WO => x.1) (R := fun x y => cmpF x y < 0), woL_map]; exact h1.imp lt_cmpF
  ·rw [← List.pairwise_map (f := fun x : WO => x.1) (R := fun x y => cmpF x y < 0), woL_map]; exact h2.imp lt_cmpF
  ·rintro ⟨x, hx⟩
   have e1 : ∀ (l : List COp) (h : ∀ x ∈ l, Wo x), (⟨x, hx⟩ : WO) ∈ woL l h ↔ x ∈ l := fun l h => by
    conv => rhs; rw [← woL_map l h]
    rw [List.mem_map]
    exact ⟨fun q => ⟨_, q, rfl⟩, fun ⟨q, hq, e⟩ => by have : q = ⟨x, hx⟩ := Subtype.ext e; exact this ▸ hq⟩
   rw [e1, e1]; exact hm x
 rw [← woL_map a ha, e, woL_map]
theorem sort_unique {l m : List COp} (hl : ∀ x ∈ l, Wo x) (hc : CF l) (hp : m.Perm l) (hs : m.Pairwise fun x y => cmpO x y ≤ 0) : m = sortO l := by
 have hm : ∀ x ∈ m, Wo x := fun x hx => hl x (hp.mem_iff.1 hx)
 have hso : ∀ x ∈ sortO l, Wo x := fun x hx => hl x ((sortO_perm l).mem_iff.1 hx)
 exact lt_unique hm hso (le_lt hm (hc.perm hp.symm) hs) (le_lt hso (hc.perm (sortO_perm l).symm) (sortO_le hl)) fun x => by rw [hp.mem_iff, (sortO_perm l).mem_iff]
def adjB (x y : COp) : Bool := decide (x.key = y.key) && (x.add || !y.add || x.k != 1 || x.u == y.u)
theorem adj_confl {x y : COp} (hx : Wo x) (hy : Wo y) (h : cmpO x y ≤ 0) : adjB x y = confl x y := by
 unfold adjB confl
 by_cases hk : x.key = y.key
 ·rw [decide_eq_true hk, Bool.true_and, Bool.true_and]
  rcases cmpO_same h ((cmpK_eq hx hy).2 hk) with e | ⟨e1, e2⟩
  ·rw [e]; cases y.add <;> simp
  ·rw [e1, e2]; simp
 ·rw [decide_eq_false hk]; rfl
theorem adj_cf {l : List COp} (hl : ∀ x ∈ l, Wo x) (hs : l.Pairwise fun x y => cmpO x y ≤ 0) (ha : ∀ i, i + 1 < l.length → adjB (l.getD i coz) (l.getD (i + 1) coz) = false) : CF l := by
 rw [CF, List.pairwise_iff_getElem]
 have hg : ∀ i (h : i < l.length), l.getD i coz = l[i] := fun i h => by simp [List.getD, h]
 have hm : ∀ i (h : i < l.length), Wo l[i] := fun i h => hl _ (List.getElem_mem h)
 have hle : ∀ i j (hi : i < l.length) (hj : j < l.length), i < j → cmpO l[i] l[j] ≤ 0 := fun i j hi hj h => List.pairwise_iff_getElem.1 hs i j hi hj h
 have adj : ∀ i (hi : i + 1 < l.length), confl l[i] l[i + 1] = false := fun i hi => by
  have := ha i hi
  rw [hg i (by omega), hg (i + 1) hi, adj_confl (hm i (by omega)) (hm _ hi) (hle i (i + 1) (by omega) hi (by omega))] at this
  exact this
 intro i j hi hj hij
 rcases Nat.lt_or_ge (i + 1) j with h2 | h2
 ·rw [Bool.eq_false_iff]
  intro hc
  have hk : l[i].key = l[j].key := by
   unfold confl at hc
   rw [Bool.and_eq_true] at hc
   exact of_decide_eq_true hc.1
  -- the ones between have the key too
  have hmid : ∀ m (hm' : m < l.length), i < m → m < j → l[m].key = l[i].key := fun m hm' h3 h4 => by
   have a1 := cmpO_le_K (hle i m hi hm' h3)
   have a2 := cmpO_le_K (hle m j hm' hj h4)
   rw [← hk] at a2
   have a3 := cmpK_anti (hm i hi) (hm m hm')
   exact ((cmpK_eq (hm m hm') (hm i hi)).1 (by omega))
  have k1 := hmid (i + 1) (by omega) (by omega) h2
  have c1 := confl_no (adj i (by omega)) k1.symm
  have s1 := cmpO_same (hle i (i + 1) hi (by omega) (by omega)) ((cmpK_eq (hm i hi) (hm _ _)).2 k1.symm)
  have t1 : l[i + 1].add = true := by
   rcases s1 with e | e
   ·exact absurd e c1.2.1
   ·exact e.2
  have k2 : l[i + 2].key = l[i].key := by
   rcases Nat.lt_or_ge (i + 2) j with h5 | h5
   ·exact hmid (i + 2) (by omega) (by omega) h5
   ·have : j = i + 2 := by omega
    subst this; exact hk.symm
  have c2 := confl_no (adj (i + 1) (by omega)) (k1.trans k2.symm)
  have s2 := cmpO_same (hle (i + 1) (i + 2) (by omega) (by omega) (by omega)) ((cmpK_eq (hm _ _) (hm _ _)).2 (k1.trans k2.symm))
  rcases s2 with e | e
  ·exact absurd e c2.2.1
  ·rw [t1] at e; exact absurd e.1 (by decide)
 ·have : j = i + 1 := by omega
  subst this
  exact adj i hj
theorem cf_adj {l : List COp} (hl : ∀ x ∈ l, Wo x) (hs : l.Pairwise fun x y => cmpO x y ≤ 0) (hc : CF l) {i : Nat} (hi : i + 1 < l.length) : adjB (l.getD i coz) (l.getD (i + 1) coz) = false := by
 have hg : ∀ i (h : i < l.length), l.getD i coz = l[i] := fun i h => by simp [List.getD, h]
 rw [hg i (by omega), hg (i + 1) hi, adj_confl (hl _ (List.getElem_mem _)) (hl _ (List.getElem_mem _)) (List.pairwise_iff_getElem.1 hs i (i + 1) (by omega) hi (by omega))]
 exact List.pairwise_iff_getElem.1 hc i (i + 1) (by omega) hi (by omega)
structure Kr (x : OKey) : Prop where
 k : 0 ≤ x.k ∧ x.k ≤ 255
 a : 0 ≤ x.a ∧ x.a ≤ 256
 b : 0 ≤ x.b ∧ x.b ≤ 256
 ok : x.p.ok
theorem Vo.kr {o : COp} (h : Vo o) : Kr o.key := by
 have h1 := h.rng
 exact ⟨⟨by show 0 ≤ o.k; omega, by show o.k ≤ 255; omega⟩, ⟨by show 0 ≤ o.a; omega, by show o.a ≤ 256; omega⟩, ⟨by show 0 ≤ o.b; omega, by show o.b ≤ 256; omega⟩, h.ok⟩
def errO (l : List COp) : Int := ((l.find? fun o => checkO o != 0).map checkO).getD 0
def ofO (l : List COp) : List COp × Int := if errO l ≠ 0 then ([], errO l) else if CF l then (sortO l, 0) else ([], 12)
theorem errO_none {l : List COp} : errO l = 0 ↔ ∀ o ∈ l, checkO o = 0 := by
 unfold errO
 cases h : l.find? fun o => checkO o != 0 with
 | none =>
  rw [List.find?_eq_none] at h
  exact ⟨fun _ o ho => by have := h o ho; simpa using this, fun _ => rfl⟩
 | some x =>
  have h1 := List.find?_some h
  have h2 := List.mem_of_find?_eq_some h
  simp only [bne_iff_ne, ne_eq] at h1
  exact ⟨fun e => absurd e h1, fun e => absurd (e x h2) h1⟩
theorem errO_at {l : List COp} {k : Nat} (hk : k < l.length) (hn : ∀ j, j < k → checkO (l.getD j coz) = 0) (he : checkO (l.getD k coz) ≠ 0) : errO l = checkO (l.getD k coz) := by
 have e1 : l = l.take k ++ l.getD k coz :: l.drop (k + 1) := by
  have : l.getD k coz = l[k] := by simp [List.getD, hk]
  rw [this, ← List.drop_eq_getElem_cons hk, List.take_append_drop]
 have e2 : (l.take k).find? (fun o => checkO o != 0) = none := by
  rw [List.find?_eq_none]
  intro o ho
  obtain ⟨j, hj, rfl⟩ := List.mem_iff_getElem.1 ho
  rw [List.length_take] at hj
  have := hn j (by omega)
  rw [List.getElem_take]
  have e3 : l.getD j coz = l[j] := by simp [List.getD, show j < l.length by omega]
  rw [e3] at this
  simpa using this
 unfold errO
 have e4 : l.find? (fun o => checkO o != 0) = some (l.getD k coz) := by
  rw [e1, List.find?_append, e2, Option.none_or]
  have h5 : ∀ (z : COp) (r : List COp), checkO z ≠ 0 → (z :: r).find? (fun o => checkO o != 0) = some z := fun z r hz => by
   rw [List.find?_cons_of_pos]
   simpa using hz
  rw [← e1]; exact h5 _ _ he
 rw [e4]; rfl
section
variable {x y : COp}
theorem lessO_k (h : x.k ≠ y.k) : decide (x.k < y.k) = decide (cmpO x y < 0) := by
 have e : cmpK x.key y.key = x.k - y.k := by rw [cmpK, if_pos (show x.key.k ≠ y.key.k from h)]; rfl
 have e2 : cmpO x y = x.k - y.k := by unfold cmpO; rw [e, if_pos (by omega)]
 rw [e2, decide_eq_decide]; omega
theorem lessO_a (h : x.k = y.k) (h2 : x.a ≠ y.a) : decide (x.a < y.a) = decide (cmpO x y < 0) := by
 have e : cmpK x.key y.key = x.a - y.a := by rw [cmpK, if_neg (by simpa [COp.key] using h), if_pos (show x.key.a ≠ y.key.a from h2)]; rfl
 have e2 : cmpO x y = x.a - y.a := by unfold cmpO; rw [e, if_pos (by omega)]
 rw [e2, decide_eq_decide]; omega
theorem lessO_b (h : x.k = y.k) (h2 : x.a = y.a) (h3 : x.b ≠ y.b) : decide (x.b < y.b) = decide (cmpO x y < 0) := by
 have e : cmpK x.key y.key = x.b - y.b := by rw [cmpK, if_neg (by simpa [COp.key] using h), if_neg (by simpa [COp.key] using h2), if_pos (show x.key.b ≠ y.key.b from h3)]; rfl
 have e2 : cmpO x y = x.b - y.b := by unfold cmpO; rw [e, if_pos (by omega)]
 rw [e2, decide_eq_decide]; omega
theorem cmpK_p (h : x.k = y.k) (h2 : x.a = y.a) (h3 : x.b = y.b) : cmpK x.key y.key = cmpM x.p y.p := by
 rw [cmpK, if_neg (by simpa [COp.key] using h), if_neg (by simpa [COp.key] using h2), if_neg (by simpa [COp.key] using h3)]; rfl
theorem lessO_p (h : x.k = y.k) (h2 : x.a = y.a) (h3 : x.b = y.b) (h4 : cmpM x.p y.p ≠ 0) : decide (cmpM x.p y.p < 0) = decide (cmpO x y < 0) := by
 have e2 : cmpO x y = cmpM x.p y.p := by unfold cmpO; rw [cmpK_p h h2 h3, if_pos h4]
 rw [e2]
theorem lessO_e (h : x.k = y.k) (h2 : x.a = y.a) (h3 : x.b = y.b) (h4 : cmpM x.p y.p = 0) : (!x.add && y.add) = decide (cmpO x y < 0) := by
 have e2 : cmpO x y = if x.add = y.add then 0 else if y.add then -1 else 1 := by unfold cmpO; rw [cmpK_p h h2 h3, if_neg (by simpa using h4)]
 rw [e2]; cases x.add <;> cases y.add <;> decide
end
theorem sortO_succ {l : List COp} {k : Nat} (h : k < l.length) : sortO (l.take (k + 1)) = insGo cmpO (l.getD k coz) (sortO (l.take k)) := by
 have e : l.getD k coz = l[k] := by simp [List.getD, h]
 rw [List.take_succ_eq_append_getElem h, e]
 unfold sortO
 rw [List.foldl_append]; rfl
theorem sortO_len (l : List COp) : (sortO l).length = l.length := (sortO_perm l).length_eq
theorem insGo_atO {p : COp} : ∀ {m : List COp} {i : Nat}, i ≤ m.length → (∀ t, t < i → ¬ cmpO p (m.getD t coz) < 0) → (i < m.length → cmpO p (m.getD i coz) < 0) → insGo cmpO p m = m.take i ++ p :: m.drop i
 | [], i, h, _, _ => by
  have : i = 0 := by simpa using h
  subst this; rfl
 | x :: r, 0, _, _, h => by
  have := h (by simp)
  simp only [List.getD_cons_zero] at this
  rw [insGo, if_pos this]; rfl
 | x :: r, i + 1, hi, h, h2 => by
  have h0 := h 0 (by omega)
  simp only [List.getD_cons_zero] at h0
  rw [insGo, if_neg h0, insGo_atO (i := i) (by simpa using hi) (fun t ht => by have := h (t + 1) (by omega); simpa using this) (fun hl => by have := h2 (by simpa using hl); simpa using this)]
  rfl
theorem cf_snoc {l : List COp} {i : Nat} (hi : i < l.length) (h : CF (l.take i)) (hn : ∀ t, t < i → confl (l.getD i coz) (l.getD t coz) = false) : CF (l.take (i + 1)) := by
 have e : l.getD i coz = l[i] := by simp [List.getD, hi]
 unfold CF at h ⊢
 rw [List.take_succ_eq_append_getElem hi, List.pairwise_append]
 refine ⟨h, by simp, fun x hx y hy => ?_⟩
 have hy' : y = l[i] := by simpa using hy
 subst hy'
 obtain ⟨t, ht, rfl⟩ := List.mem_iff_getElem.1 hx
 rw [List.length_take] at ht
 have := hn t (by omega)
 have e2 : l.getD t coz = l[t] := by simp [List.getD, show t < l.length by omega]
 rw [e, e2] at this
 rw [List.getElem_take, confl_symm]; exact this
theorem cf_no {l : List COp} {i t : Nat} (hi : i < l.length) (ht : t < i) (h : confl (l.getD i coz) (l.getD t coz) = true) : ¬ CF l := fun hc => by
 have e : l.getD i coz = l[i] := by simp [List.getD, hi]
 have e2 : l.getD t coz = l[t] := by simp [List.getD, show t < l.length by omega]
 have := List.pairwise_iff_getElem.1 hc t i (by omega) hi ht
 rw [e, e2, confl_symm] at h
 rw [this] at h; cases h
end Go.Lx
/- Two sets of ops, merged: what is in no conflict, the conflicts, a choice. Nothing of a program stands here. -/
namespace Go.Lx
open Go
def withK (l : List COp) (κ : OKey) : List COp := l.filter fun o => decide (o.key = κ)
def keysO (l : List COp) : List OKey := compL (l.map COp.key)
theorem takeK {X : List COp} {k : Nat} (h : k < X.length) : (X.take (k + 1)).map COp.key = (X.take k).map COp.key ++ [(X.getD k coz).key] := by
 have e : X.getD k coz = X[k] := by simp [List.getD, h]
 rw [List.take_succ_eq_append_getElem h, List.map_append, e]; rfl
def wsS (a : Option Addr) (n c : Nat) : List Value := [.slice a n c]
structure VS (l : List COp) : Prop where
 v : ∀ x ∈ l, Vo x
 cf : CF l
 pw : l.Pairwise fun x y => cmpO x y < 0
theorem VS.nil : VS [] := ⟨by simp, List.Pairwise.nil, List.Pairwise.nil⟩
theorem VS.wo {l : List COp} (h : VS l) : ∀ x ∈ l, Wo x := fun x hx => (h.v x hx).wo
theorem VS.le {l : List COp} (h : VS l) : l.Pairwise fun x y => cmpO x y ≤ 0 := h.pw.imp fun h => Int.le_of_lt h
theorem vs_sort {l : List COp} (hv : ∀ x ∈ l, Vo x) (hc : CF l) : VS (sortO l) := by
 have hm : ∀ x ∈ sortO l, Vo x := fun x hx => hv x ((sortO_perm l).mem_iff.1 hx)
 exact ⟨hm, hc.perm (sortO_perm l).symm, le_lt (fun x hx => (hm x hx).wo) (hc.perm (sortO_perm l).symm) (sortO_le fun x hx => (hv x hx).wo)⟩
theorem of_good {l : List COp} (hv : ∀ x ∈ l, Vo x) (hc : CF l) : ofO l = (sortO l, 0) := by
 unfold ofO
 rw [if_neg (by rw [errO_none.2 fun o ho => (hv o ho).chk]; simp), if_pos hc]
theorem vs_of {l : List COp} (ho : ∀ x ∈ l, x.p.ok) (h : (ofO l).2 = 0) : VS (ofO l).1 ∧ (ofO l).1.Perm l := by
 unfold ofO at h ⊢
 by_cases he : errO l ≠ 0
 ·rw [if_pos he] at h; exact absurd h he
 rw [if_neg he] at h ⊢
 have he' : errO l = 0 := Classical.not_not.1 he
 by_cases hc : CF l
 ·rw [if_pos hc]
  exact ⟨vs_sort (fun x hx => ⟨ho x hx, errO_none.1 he' x hx⟩) hc, sortO_perm l⟩
 ·rw [if_neg hc] at h; cases h
theorem VS.sorted {l : List COp} (h : VS l) : sortO l = l := (sort_unique h.wo h.cf (List.Perm.refl _) h.le).symm
theorem VS.of {l : List COp} (h : VS l) : ofO l = (l, 0) := by rw [of_good h.v h.cf, h.sorted]
theorem VS.sub {l m : List COp} (h : VS l) (hm : m.Sublist l) : VS m := ⟨fun x hx => h.v x (hm.subset hx), h.cf.sublist hm, h.pw.sublist hm⟩
theorem withK_mem {l : List COp} {κ : OKey} {o : COp} : o ∈ withK l κ ↔ o ∈ l ∧ o.key = κ := by
 unfold withK; rw [List.mem_filter, decide_eq_true_iff]
theorem withK_ne {l : List COp} {κ : OKey} : withK l κ ≠ [] ↔ ∃ o ∈ l, o.key = κ := by
 constructor
 ·intro h
  obtain ⟨o, r, e⟩ := List.exists_cons_of_ne_nil h
  have : o ∈ withK l κ := by rw [e]; simp
  exact ⟨o, withK_mem.1 this⟩
 ·rintro ⟨o, h1, h2⟩ e
  have : o ∈ withK l κ := withK_mem.2 ⟨h1, h2⟩
  rw [e] at this; cases this
def wkL : (l : List OKey) → (∀ x ∈ l, Wk x) → List WK
 | [], _ => []
 | x :: r, h => ⟨x, h x (by simp)⟩ :: wkL r (fun y hy => h y (by simp [hy]))
theorem wkL_map : ∀ (l : List OKey) (h : ∀ x ∈ l, Wk x), (wkL l h).map (·.1) = l
 | [], _ => rfl
 | x :: r, h => by simp [wkL, wkL_map r]
theorem wkL_mem {x : OKey} (hx : Wk x) (l : List OKey) (h : ∀ x ∈ l, Wk x) : (⟨x, hx⟩ : WK) ∈ wkL l h ↔ x ∈ l := by
 conv => rhs; rw [← wkL_map l h]
 rw [List.mem_map]
 exact ⟨fun q => ⟨_, q, rfl⟩, fun ⟨q, hq, e⟩ => by have : q = ⟨x, hx⟩ := Subtype.ext e; exact this ▸ hq⟩
theorem compStep_wk (acc : List WK) (x : WK) : (compStep acc x).map (·.1) = compStep (acc.map (·.1)) x.1 := by
 unfold compStep
 have e : (acc.getLast? == some x) = ((acc.map (·.1)).getLast? == some x.1) := by
  rw [List.getLast?_map]
  cases h : acc.getLast? with
  | none => rfl
  | some y =>
   rw [Bool.eq_iff_iff, beq_iff_eq]
   simp only [Option.map_some, beq_iff_eq, Option.some.injEq]
   exact ⟨fun e => by rw [e], fun e => Subtype.ext e⟩
 rw [e]
 split <;> simp
theorem compF_wk : ∀ (l acc : List WK), (l.foldl compStep acc).map (·.1) = (l.map (·.1)).foldl compStep (acc.map (·.1))
 | [], _ => rfl
 | x :: r, acc => by
  show (r.foldl compStep (compStep acc x)).map (·.1) = _
  rw [compF_wk r, compStep_wk]; rfl
theorem keys_asc {l : List COp} (h : VS l) : (keysO l).Pairwise (fun x y => cmpK x y < 0) ∧ ∀ κ, κ ∈ keysO l ↔ ∃ o ∈ l, o.key = κ := by
 have hw : ∀ x ∈ l.map COp.key, Wk x := fun x hx => by
  obtain ⟨o, ho, rfl⟩ := List.mem_map.1 hx
  exact h.wo o ho
 have hp : (wkL (l.map COp.key) hw).Pairwise (fun x y => cmpK x.1 y.1 ≤ 0) := by
  rw [← List.pairwise_map (f := fun x : WK => x.1) (R := fun x y => cmpK x y ≤ 0), wkL_map, List.pairwise_map]
  exact h.le.imp cmpO_le_K
 obtain ⟨h1, h2⟩ := comp_pw cmpK_is _ hp
 have e : (compL (wkL (l.map COp.key) hw)).map (·.1) = keysO l := by
  show ((wkL (l.map COp.key) hw).foldl compStep []).map (·.1) = _
  rw [compF_wk, wkL_map]; rfl
 constructor
 ·rw [← e, List.pairwise_map]; exact h1
 ·intro κ
  rw [← e, List.mem_map]
  constructor
  ·rintro ⟨q, hq, rfl⟩
   have := (wkL_mem q.2 (l.map COp.key) hw).1 ((h2 q).1 hq)
   obtain ⟨o, ho, e⟩ := List.mem_map.1 this
   exact ⟨o, ho, e⟩
  ·rintro ⟨o, ho, rfl⟩
   exact ⟨⟨o.key, h.wo o ho⟩, (h2 _).2 ((wkL_mem _ _ _).2 (List.mem_map_of_mem ho)), rfl⟩
theorem keys_wk {l : List COp} (h : VS l) : ∀ κ ∈ keysO l, Wk κ := fun κ hκ => by
 obtain ⟨o, ho, rfl⟩ := ((keys_asc h).2 κ).1 hκ
 exact h.wo o ho
theorem cmpK_self {x : OKey} (h : Wk x) : cmpK x x = 0 := cmpK_is.irr ⟨x, h⟩
theorem cmpO_self {x : COp} (h : Wo x) : cmpO x x = 0 := by
 unfold cmpO; rw [if_neg (by rw [cmpK_self h]; simp), if_pos rfl]
structure Cfl where
 κ : OKey
 o : COp
 t : COp
 deriving DecidableEq
end Go.Lx
/- Maps whose keys are structs, and whose values are lists that the call owns: the ops of a set by their keys. Nothing of a program stands here. -/
namespace Go.Lx
open Go Go.RowKit Go.MapKept Go.ChangeMaps
structure KLaw {κ : Type} (P : Program) (K : TypeId) (ek : κ → Value) (G : κ → Prop) : Prop where
 law : Go.Maps.Keyed P K
 rds : ∀ k, G k → ∃ l, keyOf P K (ek k) = some l
 inj : ∀ a b, ek a = ek b → a = b
section
variable {κ α : Type} [DecidableEq κ] {ek : κ → Value} {em : α → Value} {G : κ → Prop} {w w' : World} {b : Nat} {l : List (κ × α)} {P : Program} {K T E : TypeId}
theorem Mp.ndI (hi : ∀ a b, ek a = ek b → a = b) (h : Mp ek em w b l) : (l.map (·.1)).Nodup := by
 obtain ⟨es, c, _, hs, he⟩ := h
 have h3 := hs.2.2
 rw [entM_keys he] at h3
 have : (l.map (·.1)).map ek = l.map fun p => ek p.1 := by simp [List.map_map, Function.comp_def]
 rw [← this] at h3
 exact (List.pairwise_map.1 h3).imp fun hne e => hne (by rw [e])
theorem find_casesK (L : KLaw P K ek G) {es : List MapEntry} (h : entM es = rowM ek em l) (hG : ∀ p ∈ l, G p.1) {k : κ} (hk : G k) (w : World) :
  ((Instr.findKey K (ek k) es).run P w = .ok none w ∧ (∀ p ∈ l, p.1 ≠ k) ∧ ∀ x ∈ es, x.key ≠ ek k) ∨ ∃ j e a, (Instr.findKey K (ek k) es).run P w = .ok (some (j, e.val)) w ∧ es[j]? = some e ∧ e.key = ek k ∧ e.val = em a ∧ l[j]? = some (k, a) := by
 obtain ⟨lx, hlx⟩ := L.rds k hk
 have hes : ∀ e ∈ es, ∃ l, keyOf P K e.key = some l := fun e he => by
  obtain ⟨j, hj⟩ := List.getElem?_of_mem he
  obtain ⟨p, hp, e1, _⟩ := ent_get h hj
  rw [e1]; exact L.rds p.1 (hG p (List.mem_of_getElem? hp))
 rcases L.law.find w hlx es hes with ⟨h1, h2⟩ | ⟨j, e, h1, h2, h3⟩
 ·refine .inl ⟨h1, fun p hp e => ?_, h2⟩
  have : ek p.1 ∈ l.map fun p => ek p.1 := List.mem_map.2 ⟨p, hp, rfl⟩
  rw [← entM_keys h] at this
  obtain ⟨x, hx, ex⟩ := List.mem_map.1 this
  exact h2 x hx (by rw [ex, e])
 ·obtain ⟨p, hp, e1, e2⟩ := ent_get h h2
  have ek' : p.1 = k := L.inj _ _ (by rw [← e1, h3])
  refine .inr ⟨j, e, p.2, h1, h2, h3, e2, ?_⟩
  rw [hp, ← ek']
theorem run_lookupK {k : κ} {z0 : α} {ok : Bool} (L : KLaw P K ek G) (hT : P.underlying T = some (.map K E)) (hz : ∀ w, (zeroValue E).run P w = .ok (em z0) w) (h : Mp ek em w b l) (hG : ∀ p ∈ l, G p.1) (hk : G k) :
  (Instr.lookup T (.map (some b)) (ek k) ok).run P w = .ok (if ok then .tuple #[em ((getM l k).getD z0), .bool (getM l k).isSome] else em ((getM l k).getD z0)) w := by
 have hnd := h.ndI L.inj
 obtain ⟨es, c, h1, h2, h3⟩ := h
 obtain ⟨lx, hlx⟩ := L.rds k hk
 have hck : ∀ e, (Instr.checkKey e 10000 K (ek k)).run P w = .ok () w := fun e => L.law.check w e hlx
 rcases find_casesK L h3 hG hk w with ⟨f1, f2, _⟩ | ⟨j, e, a, f1, f2, f3, f4, f5⟩
 ·rw [getM_no f2]
  cases ok <;> simp [Instr.lookup, run_underlying hT, MapKept.run_getObj_map h1, hck, f1, hz]
 ·rw [getM_at hnd f5]
  cases ok <;> simp [Instr.lookup, run_underlying hT, MapKept.run_getObj_map h1, hck, f1, ← f4]
theorem run_mputK {k : κ} {a : α} (L : KLaw P K ek G) (hT : P.underlying T = some (.map K E)) (h : Mp ek em w b l) (hG : ∀ p ∈ l, G p.1) (hk : G k) :
  ∃ w', (Instr.mapUpdate T (.map (some b)) (ek k) (em a)).run P w = .ok () w' ∧ Bel True (Only b) w w' ∧ Mp ek em w' b (putM l k a) := by
 have hnd := h.ndI L.inj
 obtain ⟨es, c, h1, h2, h3⟩ := h
 obtain ⟨lx, hlx⟩ := L.rds k hk
 have hck : (Instr.checkKey false 10000 K (ek k)).run P w = .ok () w := L.law.check w false hlx
 rcases find_casesK L h3 hG hk w with ⟨f1, f2, f3⟩ | ⟨j, e, a0, f1, f2, f3, f4, f5⟩
 ·refine ⟨setBlock w b (.map (es.push { key := ek k, val := em a, born := c }) (c + 1)), ?_, Bel.block1 _ _, _, _, block1_same h1 _, stamped_push h2 f3, ?_⟩
  ·simp [Instr.mapUpdate, run_underlying hT, MapKept.run_getObj_map h1, hck, f1, run_setObj_map _ h1, setBlock]
  ·rw [putM_no f2]
   simp only [entM, rowM, Array.toList_push, List.map_append, List.map_cons, List.map_nil] at h3 ⊢
   rw [h3]
 ·have f2' : es[j]? = some e := by simpa using f2
  refine ⟨setBlock w b (.map (es.modify j fun e => { e with key := ek k, val := em a }) c), ?_, Bel.block1 _ _, _, _, block1_same h1 _, stamped_modify h2 _ _ (fun _ _ => rfl) (fun x _ hx => ?_), ?_⟩
  ·have hk : (Instr.keyThatStays (ek k) (ek k)).run P w = .ok (ek k) w := L.law.stays w hlx
   simp [Instr.mapUpdate, run_underlying hT, MapKept.run_getObj_map h1, hck, f1, f2', f3, hk, run_setObj_map _ h1, setBlock]
  ·rw [f2'] at hx
   obtain rfl : e = x := by simpa using hx
   exact f3.symm
  ·rw [entM_modify f2', h3, putM_at hnd f5]
   simp only [rowM, List.map_set]
end
theorem getM_mem {κ α : Type} [DecidableEq κ] {l : List (κ × α)} {k : κ} {a : α} (h : getM l k = some a) : (k, a) ∈ l := by
 unfold getM at h
 cases hf : l.find? fun p => decide (p.1 = k) with
 | none => rw [hf] at h; cases h
 | some q =>
  rw [hf] at h
  have hk := List.find?_some hf
  simp only [decide_eq_true_eq] at hk
  simp only [Option.map_some, Option.some.injEq] at h
  have : q = (k, a) := by rw [← hk, ← h]
  rw [← this]; exact List.mem_of_find?_eq_some hf
theorem getM_none {κ α : Type} [DecidableEq κ] {l : List (κ × α)} {k : κ} (h : getM l k = none) : ∀ v, (k, v) ∉ l := fun v hv => by
 unfold getM at h
 rw [Option.map_eq_none_iff, List.find?_eq_none] at h
 exact h _ hv (by simp)
theorem putM_mem {κ α : Type} [DecidableEq κ] {l : List (κ × α)} {k : κ} {a : α} {p : κ × α} (h : p ∈ putM l k a) : p = (k, a) ∨ (p ∈ l ∧ p.1 ≠ k) := by
 unfold putM at h
 split at h
 ·obtain ⟨q, hq, e⟩ := List.mem_map.1 h
  by_cases hk : q.1 = k
  ·rw [if_pos hk] at e; exact .inl e.symm
  ·rw [if_neg hk] at e; subst e; exact .inr ⟨hq, hk⟩
 ·rename_i hn
  rcases List.mem_append.1 h with h | h
  ·exact .inr ⟨h, fun e => hn (List.any_eq_true.2 ⟨p, h, by simpa using e⟩)⟩
  ·exact .inl (by simpa using h)
theorem mem_putM {κ α : Type} [DecidableEq κ] {l : List (κ × α)} {k : κ} {a : α} : (k, a) ∈ putM l k a ∧ ∀ p ∈ l, p.1 ≠ k → p ∈ putM l k a := by
 unfold putM
 split
 ·rename_i h
  obtain ⟨q, hq, e⟩ := List.any_eq_true.1 h
  simp only [decide_eq_true_eq] at e
  exact ⟨List.mem_map.2 ⟨q, hq, by rw [if_pos e]⟩, fun p hp hk => List.mem_map.2 ⟨p, hp, by rw [if_neg hk]⟩⟩
 ·exact ⟨by simp, fun p hp _ => List.mem_append_left _ hp⟩
def eK (κ : OKey) : Value := .agg (encCk κ).toArray
def eM (p : Option Nat × Nat × Nat) : Value := .slice (p.1.map fun g => ⟨g, 0, none⟩) p.2.1 p.2.2
theorem keys_kr {l : List COp} (h : VS l) : ∀ κ ∈ keysO l, Kr κ := fun κ hκ => by
 obtain ⟨o, ho, rfl⟩ := ((keys_asc h).2 κ).1 hκ
 exact (h.v o ho).kr
theorem str_inj {a b : Str} (h : str a = str b) : a = b := by simp [str] at h; exact h
theorem eK_inj (a b : OKey) (h : eK a = eK b) : a = b := by
 have h : encCk a = encCk b := by
  have := Value.agg.inj h
  simpa using this
 unfold encCk at h
 have e1 := (List.cons.inj h).1; have h := (List.cons.inj h).2
 have e2 := (List.cons.inj h).1; have h := (List.cons.inj h).2
 have e3 := (List.cons.inj h).1; have h := (List.cons.inj h).2
 have e4 := str_inj (List.cons.inj h).1; have h := (List.cons.inj h).2
 have e5 := str_inj (List.cons.inj h).1; have h := (List.cons.inj h).2
 have e6 := Value.bool.inj (List.cons.inj h).1
 have e1 := (Value.int.inj e1).2
 have e2 := (Value.int.inj e2).2
 have e3 := (Value.int.inj e3).2
 obtain ⟨a1, a2, a3, ⟨a4, a5, a6⟩⟩ := a
 obtain ⟨b1, b2, b3, ⟨b4, b5, b6⟩⟩ := b
 simp only at e1 e2 e3 e4 e5 e6
 rw [e1, e2, e3, e4, e5, e6]
abbrev KLawC (P : Program) (K : TypeId) : Prop := KLaw P K eK Kr
structure KX (T : TypeId) (F D : Nat → Prop) (w : World) (b : Nat) (l : List COp) (κ : OKey) (m : List (OKey × Option Nat × Nat × Nat)) : Prop where
 mp : Mp eK eM w b m
 loc : F b ∧ ¬ D b
 own : ∀ p ∈ m, p.1 ≠ κ → Own encCo 8 T (fun _ => True) w (eM p.2) (withK l p.1)
 blk : ∀ p ∈ m, p.1 ≠ κ → ∃ g, p.2.1 = some g ∧ F g ∧ g ≠ b ∧ ¬ D g
 dis : ∀ p ∈ m, ∀ q ∈ m, p.1 ≠ κ → q.1 ≠ κ → p.1 ≠ q.1 → p.2.1 ≠ q.2.1
 key : ∀ κ', (∃ v, (κ', v) ∈ m) ↔ ∃ o ∈ l, o.key = κ'
 good : ∀ p ∈ m, Kr p.1
structure KMp (T : TypeId) (F : Nat → Prop) (w : World) (b : Nat) (l : List COp) (m : List (OKey × Option Nat × Nat × Nat)) : Prop where
 mp : Mp eK eM w b m
 loc : F b
 own : ∀ p ∈ m, Own encCo 8 T (fun _ => True) w (eM p.2) (withK l p.1)
 blk : ∀ p ∈ m, ∃ g, p.2.1 = some g ∧ F g ∧ g ≠ b
 dis : ∀ p ∈ m, ∀ q ∈ m, p.1 ≠ q.1 → p.2.1 ≠ q.2.1
 key : ∀ κ', (∃ v, (κ', v) ∈ m) ↔ ∃ o ∈ l, o.key = κ'
 good : ∀ p ∈ m, Kr p.1
def KM (T : TypeId) (F : Nat → Prop) (w : World) (b : Nat) (l : List COp) : Prop := ∃ m, KMp T F w b l m
section
variable {P : Program} {T K E TM : TypeId} {F D : Nat → Prop} {w w' : World} {b : Nat} {l : List COp} {κ : OKey} {m : List (OKey × Option Nat × Nat × Nat)}
theorem KM.lt (h : KM T F w b l) : b < w.heap.size := let ⟨_, h⟩ := h; h.mp.lt
theorem eM_blk {p : Option Nat × Nat × Nat} : (eM p).ownBlock = p.1 := by
 obtain ⟨o, n, c⟩ := p
 cases o <;> rfl
theorem KM.keep {γ : Prop} {D' : Nat → Prop} (h : KM T F w b l) (x : Bel γ D' w w') (hd : ∀ g, g < w.heap.size → F g → ¬ D' g) : KM T F w' b l := by
 obtain ⟨m, h⟩ := h
 refine ⟨m, h.mp.keep x (hd b h.mp.lt h.loc), h.loc, fun p hp => (h.own p hp).keep x fun g hg hv => ?_, h.blk, h.dis, h.key, h.good⟩
 obtain ⟨g', h1, h2, h3⟩ := h.blk p hp
 rw [eM_blk, h1] at hv
 obtain rfl : g' = g := by simpa using hv
 exact hd g' hg h2
theorem KM.ext {γ : Prop} (h : KM T F w b l) (x : Ext γ w w') : KM T F w' b l := h.keep x fun _ _ _ => id
theorem KM.mono {F' : Nat → Prop} (h : KM T F w b l) (hF : ∀ g, g < w.heap.size → F g → F' g) : KM T F' w b l := by
 obtain ⟨m, h⟩ := h
 refine ⟨m, h.mp, hF b h.mp.lt h.loc, h.own, fun p hp => ?_, h.dis, h.key, h.good⟩
 obtain ⟨g, h1, h2, h3⟩ := h.blk p hp
 exact ⟨g, h1, hF g ((h.own p hp).lt g (by rw [eM_blk, h1])) h2, h3⟩
theorem KM.nil (h : Mp eK eM w b []) (hb : F b) : KM T F w b [] := ⟨[], h, hb, by simp, by simp, by simp, by simp, by simp⟩
theorem KX.keep {γ : Prop} {D' : Nat → Prop} (h : KX T F D w b l κ m) (x : Bel γ D' w w') (hd : ∀ g, g < w.heap.size → D' g → D g) : KX T F D w' b l κ m := by
 refine ⟨h.mp.keep x fun q => h.loc.2 (hd b h.mp.lt q), h.loc, fun p hp hk => (h.own p hp hk).keep x fun g hg hv q => ?_, h.blk, h.dis, h.key, h.good⟩
 obtain ⟨g', h1, h2, h3, h4⟩ := h.blk p hp hk
 rw [eM_blk, h1] at hv
 obtain rfl : g' = g := by simpa using hv
 exact h4 (hd g' hg q)
theorem KX.ext {γ : Prop} (h : KX T F D w b l κ m) (x : Ext γ w w') : KX T F D w' b l κ m := h.keep x fun _ _ h => h.elim
theorem withK_nil {l : List COp} (h : ¬ ∃ o ∈ l, o.key = κ) : withK l κ = [] := by
 cases hw : withK l κ with
 | nil => rfl
 | cons o r => exact absurd (withK_ne.1 (by rw [hw]; simp)) h
structure LkAt (P : Program) (TM : TypeId) (w : World) (b : Nat) (κ : OKey) (v : Value) (has : Bool) : Prop where
 lt : b < w.heap.size
 run : ∀ w', w'.heap[b]? = w.heap[b]? → ∀ ok, (Instr.lookup TM (.map (some b)) (eK κ) ok).run P w' = .ok (if ok then .tuple #[v, .bool has] else v) w'
theorem LkAt.keep {γ : Prop} {D' : Nat → Prop} {v : Value} {has : Bool} (h : LkAt P TM w b κ v has) (x : Bel γ D' w w') (hd : ∀ g, g < w.heap.size → g = b → ¬ D' g) : LkAt P TM w' b κ v has :=
 ⟨Nat.lt_of_lt_of_le h.lt x.size, fun w2 h2 => h.run w2 (h2.trans (x.block b h.lt (hd b h.lt rfl)))⟩
theorem LkAt.ext {γ : Prop} {v : Value} {has : Bool} (h : LkAt P TM w b κ v has) (x : Ext γ w w') : LkAt P TM w' b κ v has := h.keep x fun _ _ _ => id
theorem KM.look (L : KLawC P K) (hT : P.underlying TM = some (.map K E)) (hz : ∀ w, (zeroValue E).run P w = .ok (.slice none 0 0) w) (n : Nat) (hn : n = w.heap.size) (h : KM T F w b l) (hk : Kr κ) :
  ∃ v m, LkAt P TM w b κ v (!(withK l κ).isEmpty) ∧ Own encCo 8 T (fun g => v.ownBlock = some g ∨ n ≤ g) w v (withK l κ) ∧ (∀ g, v.ownBlock = some g → F g ∧ g ≠ b) ∧ KX T F (fun g => v.ownBlock = some g ∨ n ≤ g) w b l κ m := by
 subst hn
 obtain ⟨m, h⟩ := h
 have hnd := h.mp.ndI eK_inj
 have hr : ∀ w', w'.heap[b]? = w.heap[b]? → ∀ ok, (Instr.lookup TM (.map (some b)) (eK κ) ok).run P w' = .ok (if ok then .tuple #[eM ((getM m κ).getD (none, 0, 0)), .bool (getM m κ).isSome] else eM ((getM m κ).getD (none, 0, 0))) w' := fun w' hb ok => by
  have hmp : Mp eK eM w' b m := let ⟨es, c, h1, h2⟩ := h.mp; ⟨es, c, hb.trans h1, h2⟩
  exact run_lookupK (z0 := (none, 0, 0)) (ok := ok) L hT (fun w => hz w) hmp h.good hk
 have hlb := h.mp.lt
 cases hg : getM m κ with
 | none =>
  have h0 : withK l κ = [] := withK_nil fun q => by
   obtain ⟨v, hv⟩ := (h.key κ).2 q
   exact getM_none hg v hv
  rw [hg] at hr
  refine ⟨.slice none 0 0, m, ⟨hlb, fun w' hb ok => by rw [h0]; exact hr w' hb ok⟩, by rw [h0]; exact Own.nil _ _, fun g hv => by simp [Value.ownBlock] at hv, h.mp, ⟨h.loc, fun q => ?_⟩, fun p hp _ => h.own p hp, fun p hp _ => ?_, fun p hp q hq _ _ => h.dis p hp q hq, h.key, h.good⟩
  ·rcases q with q | q
   ·simp [Value.ownBlock] at q
   ·omega
  ·obtain ⟨g, h1, h2, h3⟩ := h.blk p hp
   have hlt := (h.own p hp).lt g (by rw [eM_blk, h1])
   refine ⟨g, h1, h2, h3, fun q => ?_⟩
   rcases q with q | q
   ·simp [Value.ownBlock] at q
   ·omega
 | some p =>
  have hp := getM_mem hg
  rw [hg] at hr
  have hne : (withK l κ).isEmpty = false := by
   rw [List.isEmpty_eq_false_iff]
   exact withK_ne.2 ((h.key κ).1 ⟨p, hp⟩)
  obtain ⟨g, h1, h2, h3⟩ := h.blk _ hp
  have hb0 : (eM p).ownBlock = some g := by rw [eM_blk]; exact h1
  refine ⟨eM p, m, ⟨hlb, fun w' hb ok => by rw [hne]; exact hr w' hb ok⟩, (h.own _ hp).at fun g' _ hv => .inl hv, fun g' hv => ?_, h.mp, ⟨h.loc, fun q => ?_⟩, fun p hp _ => h.own p hp, fun q hq hqk => ?_, fun p hp q hq _ _ => h.dis p hp q hq, h.key, h.good⟩
  ·rw [hb0] at hv
   obtain rfl : g = g' := by simpa using hv
   exact ⟨h2, h3⟩
  ·rcases q with q | q
   ·rw [hb0] at q
    exact h3 (by simpa using q)
   ·omega
  ·obtain ⟨g', q1, q2, q3⟩ := h.blk q hq
   have hlt := (h.own q hq).lt g' (by rw [eM_blk, q1])
   refine ⟨g', q1, q2, q3, fun e => ?_⟩
   rcases e with e | e
   ·rw [hb0] at e
    obtain rfl : g = g' := by simpa using e
    exact h.dis q hq _ hp hqk (by rw [q1]; exact h1.symm)
   ·omega
theorem KM.read (L : KLawC P K) (hT : P.underlying TM = some (.map K E)) (hz : ∀ w, (zeroValue E).run P w = .ok (.slice none 0 0) w) (h : KM T F w b l) (hk : Kr κ) :
  ∃ a c, LkAt P TM w b κ (.slice a (withK l κ).length c) (!(withK l κ).isEmpty) ∧ Sl encCo 8 F w a c (withK l κ) := by
 obtain ⟨v, m, h1, h2, h3, _⟩ := h.look L hT hz _ rfl hk
 obtain ⟨a, c, rfl, h4⟩ := (h2.at (D' := F) fun g _ hv => (h3 g hv).1).sl encCo_ok
 exact ⟨a, c, h1, h4⟩
theorem withK_snoc {o : COp} : withK (l ++ [o]) κ = if o.key = κ then withK l κ ++ [o] else withK l κ := by
 unfold withK
 rw [List.filter_append]
 by_cases h : o.key = κ
 ·rw [if_pos h, List.filter_cons_of_pos (by simpa using h)]; rfl
 ·rw [if_neg h, List.filter_cons_of_neg (by simpa using h)]; simp
theorem KX.put (L : KLawC P K) (hT : P.underlying TM = some (.map K E)) {o : COp} {v : Value} (h : KX T F D w b l κ m) (hk : Kr κ) (ho : o.key = κ) (hv : Own encCo 8 T D w v (withK l κ ++ [o])) (hF : ∀ g, g < w.heap.size → D g → F g) :
  ∃ w', (Instr.mapUpdate TM (.map (some b)) (eK κ) v).run P w = .ok () w' ∧ Bel True (Only b) w w' ∧ KM T F w' b (l ++ [o]) := by
 obtain ⟨g, c, rfl⟩ := hv.sm (by simp)
 have hvb : (Value.slice (some ⟨g, 0, none⟩) (withK l κ ++ [o]).length c).ownBlock = some g := rfl
 have hDg : D g := hv.loc g hvb
 have hgl := hv.lt g hvb
 obtain ⟨w', h1, h2, h3⟩ := run_mputK (a := (some g, (withK l κ ++ [o]).length, c)) L hT h.mp h.good hk
 refine ⟨w', h1, h2, putM m κ (some g, (withK l κ ++ [o]).length, c), h3, h.loc.1, fun p hp => ?_, fun p hp => ?_, fun p hp q hq hne => ?_, fun κ' => ?_, fun p hp => ?_⟩
 ·rw [withK_snoc]
  rcases putM_mem hp with rfl | ⟨hp, hpk⟩
  ·rw [if_pos ho]
   refine Own.mono (hv.keep h2 fun g' hg' e => ?_) fun _ _ _ => trivial
   rw [hvb] at e
   obtain rfl : g = g' := by simpa using e
   exact fun q => h.loc.2 (by rw [← show g = b from q]; exact hDg)
  ·rw [if_neg (by rw [ho]; exact fun e => hpk e.symm)]
   obtain ⟨g', q1, q2, q3, q4⟩ := h.blk p hp hpk
   refine (h.own p hp hpk).keep h2 fun g'' _ e => ?_
   rw [eM_blk, q1] at e
   obtain rfl : g' = g'' := by simpa using e
   exact q3
 ·rcases putM_mem hp with rfl | ⟨hp, hpk⟩
  ·exact ⟨g, rfl, hF g hgl hDg, fun e => h.loc.2 (by rw [← e]; exact hDg)⟩
  ·obtain ⟨g', q1, q2, q3, q4⟩ := h.blk p hp hpk
   exact ⟨g', q1, q2, q3⟩
 ·rcases putM_mem hp with rfl | ⟨hp, hpk⟩
  ·rcases putM_mem hq with rfl | ⟨hq, hqk⟩
   ·exact absurd rfl hne
   ·obtain ⟨g', q1, q2, q3, q4⟩ := h.blk q hq hqk
    intro e
    rw [q1] at e
    obtain rfl : g = g' := by simpa using e
    exact q4 hDg
  ·rcases putM_mem hq with rfl | ⟨hq, hqk⟩
   ·obtain ⟨g', q1, q2, q3, q4⟩ := h.blk p hp hpk
    intro e
    rw [q1] at e
    obtain rfl : g' = g := by simpa using e
    exact q4 hDg
   ·exact h.dis p hp q hq hpk hqk hne
 ·constructor
  ·rintro ⟨v, hv⟩
   rcases putM_mem hv with e | ⟨hv, hvk⟩
   ·exact ⟨o, by simp, by rw [ho]; exact (congrArg Prod.fst e).symm⟩
   ·obtain ⟨o', h4, h5⟩ := (h.key κ').1 ⟨v, hv⟩
    exact ⟨o', by simp [h4], h5⟩
  ·rintro ⟨o', h4, h5⟩
   by_cases e : κ' = κ
   ·rw [e]; exact ⟨_, mem_putM.1⟩
   ·rcases List.mem_append.1 h4 with h4 | h4
    ·obtain ⟨v, hv⟩ := (h.key κ').2 ⟨o', h4, h5⟩
     exact ⟨v, mem_putM.2 _ hv e⟩
    ·have : o' = o := by simpa using h4
     exact absurd (by rw [← h5, this, ho]) e
 ·rcases putM_mem hp with rfl | ⟨hp, _⟩
  ·exact hk
  ·exact h.good p hp
variable {n : Nat} {rd : Option Nat} {Q : Fr → World → Prop} {fr : Fr} {ops : Array Oper} {rest : List Oper} {d : Option Nat} {t : TypeId} {ps : String} {af : Array Edge} {g : Option (Nat × Bool)} {x y z : Operand} {ok : Bool} {v : Value}
end
end Go.Lx
/- The order of keys by signs; conflicts as they lie. Nothing of a program stands here. -/
namespace Go.Lx
open Go
def KmIs (T : TypeId) (n : Nat) (l : List COp) (F : Nat → Prop) (v : Value) (w : World) : Prop := (∀ g, F g → n ≤ g) ∧ ∃ b, v = .map (some b) ∧ KM T F w b l
theorem KmIs.keepS (T : TypeId) (n : Nat) (l : List COp) : KeepS (KmIs T n l) := fun F v γ D w w' x hd ⟨h1, b, h2, h3⟩ => ⟨h1, b, h2, h3.keep x hd⟩
theorem wrap_k8 {n : Int} (h0 : 0 ≤ n) (h1 : n ≤ 255) : IntKind.u8.wrap n = n := by
 obtain ⟨m, rfl⟩ := Int.eq_ofNat_of_zero_le h0
 simp [IntKind.wrap, IntKind.bits, IntKind.signed]
 omega
theorem takeD {α : Type} {l : List α} {k : Nat} {z : α} (h : k < l.length) : l.take (k + 1) = l.take k ++ [l.getD k z] := by
 rw [List.take_succ_eq_append_getElem h, show l[k] = l.getD k z by simp [List.getD, h]]
theorem compF_len {α : Type} [BEq α] : ∀ (l acc : List α), (l.foldl compStep acc).length ≤ acc.length + l.length
 | [], acc => by simp
 | x :: r, acc => by
  have h := compF_len r (compStep acc x)
  have h2 : (compStep acc x).length ≤ acc.length + 1 := by unfold compStep; split <;> simp
  simp only [List.foldl_cons, List.length_cons]; omega
theorem keysO_len (l : List COp) : (keysO l).length ≤ l.length := by
 have h := compF_len (l.map COp.key) []
 simpa [keysO, compL] using h
end Go.Lx
/- What the reference's states are made of, as far as the statements about sets of ops look at them. Nothing of a program stands here. -/
namespace Go.Lx
open Go Go.RowKit
structure E12 where
 u : Int
 r : Int
 t : Int
 deriving DecidableEq
def encA12 (e : E12) : List Value := [.int .i64 e.u, .int .i64 e.r, .int .i64 e.t]
theorem Ji : EncOk encA12 3 := ⟨by decide, fun _ => rfl, fun x u hu => by
 simp [encA12] at hu
 rcases hu with rfl | rfl | rfl <;> rfl⟩
def az : E12 := ⟨0, 0, 0⟩
structure F18 where
 o : Int
 n : Int
 a : Option Addr
 m : Nat
 c : Nat
 a2 : Option Addr
 m2 : Nat
 c2 : Nat
def encF18 (f : F18) : List Value := [.int .i64 f.o, .int .i64 f.n, .slice f.a f.m f.c, .slice f.a2 f.m2 f.c2]
theorem encF18_ok : EncOk encF18 4 := ⟨by decide, fun _ => rfl, fun x u hu => by
 simp [encF18] at hu
 rcases hu with rfl | rfl | rfl | rfl <;> rfl⟩
structure C18 where
 e : Bool
 k : Int
 s : Str
 f : F18
def encC18 (x : C18) : List Value := [.bool x.e, .int .i64 x.k, str x.s, .int .i64 x.f.o, .int .i64 x.f.n, .slice x.f.a x.f.m x.f.c, .slice x.f.a2 x.f.m2 x.f.c2]
theorem encC18_ok : EncOk encC18 7 := ⟨by decide, fun _ => rfl, fun x u hu => by
 simp [encC18] at hu
 rcases hu with rfl | rfl | rfl | rfl | rfl | rfl | rfl <;> rfl⟩
structure R23 where
 rv : Bool
 ad : Int
 tg : Int
 y : W64
 n : W64
 a : Option Addr
 m : Nat
 c : Nat
 lg : Int
def encR23 (x : R23) : List Value := [.bool x.rv, .int .i64 x.ad, .int .i64 x.tg, u64 x.y, u64 x.n, .slice x.a x.m x.c, .int .i64 x.lg]
theorem J5 : EncOk encR23 7 := ⟨by decide, fun _ => rfl, fun x u hu => by
 simp [encR23] at hu
 rcases hu with rfl | rfl | rfl | rfl | rfl | rfl | rfl <;> rfl⟩
def Byt (F : Nat → Prop) (w : World) (b : Nat) (T : TypeId) (N : Nat) : Prop := ∃ a c l n, Box w b T [.slice a (l : List UInt8).length c, .int .i64 ((n : Nat) : Int)] ∧ n ≤ N ∧ Sl encB 1 F w a c l
section
variable {F : Nat → Prop} {w w' : World} {b N : Nat} {T : TypeId}
theorem Byt.keep {γ : Prop} {D : Nat → Prop} (h : Byt F w b T N) (x : Bel γ D w w') (hb : ¬ D b) (hF : ∀ g, g < w.heap.size → F g → ¬ D g) : Byt F w' b T N :=
 let ⟨a, c, l, n, h1, h2, h3⟩ := h
 ⟨a, c, l, n, h1.keep x hb, h2, h3.keep x hF⟩
theorem Byt.ext {γ : Prop} (h : Byt F w b T N) (x : Ext γ w w') : Byt F w' b T N := h.keep x id fun _ _ _ h => h
theorem Byt.up {M : Nat} (h : Byt F w b T N) (hn : N ≤ M) : Byt F w b T M :=
 let ⟨a, c, l, n, h1, h2, h3⟩ := h
 ⟨a, c, l, n, h1, Nat.le_trans h2 hn, h3⟩
theorem Byt.lt (h : Byt F w b T N) : b < w.heap.size := let ⟨_, _, _, _, h1, _, _⟩ := h; h1.lt
end
def addA (e : E12) : COp := ⟨true, 1, e.u, e.r, e.t, pz⟩
def addG (e : Ent) : COp := ⟨true, 2, e.r, 0, 0, e.p⟩
def addL (x : Pr) : COp := ⟨true, 3, iv x.1, iv x.2, 0, pz⟩
def thingsO (M : List E12) (G : List Ent) (L : List Pr) : List COp := M.map addA ++ G.map addG ++ L.map addL
theorem pz_ok : pz.ok := ⟨by decide, by decide⟩
theorem things_ok {M : List E12} {G : List Ent} {L : List Pr} (hG : OkG G) : ∀ o ∈ thingsO M G L, o.p.ok := by
 intro o ho
 unfold thingsO at ho
 rw [List.mem_append, List.mem_append] at ho
 rcases ho with (ho | ho) | ho
 ·obtain ⟨e, _, rfl⟩ := List.mem_map.1 ho; exact pz_ok
 ·obtain ⟨e, he, rfl⟩ := List.mem_map.1 ho; exact (hG.ve e he).2.2.1
 ·obtain ⟨e, _, rfl⟩ := List.mem_map.1 ho; exact pz_ok
theorem mapT {α β : Type} {X : List α} {k : Nat} {z : α} {f : α → β} (h : k < X.length) : (X.take (k + 1)).map f = (X.take k).map f ++ [f (X.getD k z)] := by
 have e : X.getD k z = X[k] := by simp [List.getD, h]
 rw [List.take_succ_eq_append_getElem h, List.map_append, e]; rfl
abbrev stC (d : Int) (U R : Value) (ad : W64) (L M G X Y Z : Value) : List Value := [.int .i64 d, U, R, u64 ad, L, M, G, X, Y, Z]
def StIs (F : Nat → Prop) (w : World) (v : Value) : Prop := ∃ U R ad X Y Z aL cL L aM cM M aG cG G, v = .agg (stC 10 U R ad (.slice aL (L : List Pr).length cL) (.slice aM (M : List E12).length cM) (.slice aG (G : List Ent).length cG) X Y Z).toArray ∧
 Sl encPr 2 F w aL cL L ∧ Sl encA12 3 F w aM cM M ∧ Sl encE 4 F w aG cG G ∧ OkG G ∧ L.length ≤ 10000 ∧ M.length ≤ 10000
theorem StIs.keep {γ : Prop} {F D : Nat → Prop} {w w' : World} {v : Value} (h : StIs F w v) (x : Bel γ D w w') (hd : ∀ b, b < w.heap.size → F b → ¬ D b) : StIs F w' v :=
 let ⟨U, R, ad, X, Y, Z, aL, cL, L, aM, cM, M, aG, cG, G, h1, h2, h3, h4, h5⟩ := h
 ⟨U, R, ad, X, Y, Z, aL, cL, L, aM, cM, M, aG, cG, G, h1, h2.keep x hd, h3.keep x hd, h4.keep x hd, h5⟩
theorem StIs.ext {γ : Prop} {F : Nat → Prop} {w w' : World} {v : Value} (h : StIs F w v) (x : Ext γ w w') : StIs F w' v := h.keep x fun _ _ _ h => h
theorem StIs.mono {F F' : Nat → Prop} {w : World} {v : Value} (h : StIs F w v) (hd : ∀ b, b < w.heap.size → F b → F' b) : StIs F' w v :=
 let ⟨U, R, ad, X, Y, Z, aL, cL, L, aM, cM, M, aG, cG, G, h1, h2, h3, h4, h5⟩ := h
 ⟨U, R, ad, X, Y, Z, aL, cL, L, aM, cM, M, aG, cG, G, h1, h2.mono hd, h3.mono hd, h4.mono hd, h5⟩
structure RawO where
 add : Bool
 old : Bool
 k : UInt8
 a : UInt8
 b : UInt8
 u : UInt8
section
variable {P : Program} {fr : Fr} {w : World} {d : Option Nat} {t : TypeId} {ps : String} {af : Array Edge} {g : Option (Nat × Bool)} {x y : Operand} {T U : TypeId} {k : IntKind} {a n : Nat}
theorem o_shrN (hx : ev fr x = .int .i64 (a : Int)) (hy : ev fr y = .int k (n : Int)) (hn : n < 64) : xop P fr w ⟨d, .binOp .shr T x y U, t, ps, af, g⟩ = .ok (.value (.int .i64 ((a >>> n : Nat) : Int))) w := by
 have e : Int.fdiv (a : Int) (2 ^ n) = ((a >>> n : Nat) : Int) := by
  rw [Nat.shiftRight_eq_div_pow]
  rw [Int.fdiv_eq_ediv_of_nonneg _ (by exact Int.le_of_lt (Int.pow_pos (by decide)))]
  simp
 have h0 : ¬ ((n : Int) < 0) := by omega
 have h1 : min ((n : Int).toNat) 64 = n := by rw [Int.toNat_natCast]; omega
 have h1' : min ((n : Int).toNat) IntKind.i64.bits = n := h1
 simp only [xop, execOp, hx, hy, eqGuard, binOp, Op.shift, if_neg h0]
 simp only [h1', e]; simp
theorem o_quoU8 {a b : Nat} (hx : ev fr x = .int .u8 (a : Int)) (hy : ev fr y = .int .u8 (b : Int)) (hb : 0 < b) (ha : a < 256) : xop P fr w ⟨d, .binOp .quo T x y U, t, ps, af, g⟩ = .ok (.value (.int .u8 ((a / b : Nat) : Int))) w := by
 have h0 : (b : Int) ≠ 0 := by omega
 have h00 : b ≠ 0 := by omega
 have e2 : (a : Int).tdiv (b : Int) = ((a / b : Nat) : Int) := by rw [Int.tdiv_eq_ediv_of_nonneg (by omega)]; rfl
 have h3 : a / b ≤ a := Nat.div_le_self a b
 have e : IntKind.u8.wrap ((a / b : Nat) : Int) = ((a / b : Nat) : Int) := by
  generalize a / b = q at h3 ⊢
  simp [IntKind.wrap, IntKind.bits, IntKind.signed]
  omega
 simp only [xop, execOp, hx, hy, eqGuard, binOp, Op.intDiv, e2, e]
 simp [h0, h00]
theorem shr_le (a n : Nat) : a >>> n ≤ a := Nat.shiftRight_le a n
end
def encI2 (x : Int × Int) : List Value := [.int .i64 x.1, .int .i64 x.2]
theorem encI2_ok : EncOk encI2 2 := ⟨by decide, fun _ => rfl, fun x u hu => by
 simp [encI2] at hu
 rcases hu with rfl | rfl <;> rfl⟩
def hasD (l : List (Int × Int)) (d : Int) : Bool := l.any fun x => decide (x.1 ≤ d) && decide (d ≤ x.2)
theorem any_one {α : Type} {f : α → Bool} {l : List α} {k : Nat} {z : α} (h : k < l.length) (hf : f (l.getD k z) = true) : l.any f = true := by
 have e : l.getD k z = l[k] := by simp [List.getD, h]
 exact List.any_eq_true.2 ⟨_, List.getElem_mem h, e ▸ hf⟩
theorem any_none {α : Type} {f : α → Bool} {l : List α} {z : α} (h : ∀ j, j < l.length → f (l.getD j z) = false) : l.any f = false := by
 rw [List.any_eq_false]
 intro x hx
 obtain ⟨j, hj, rfl⟩ := List.mem_iff_getElem.1 hx
 have e : l.getD j z = l[j] := by simp [List.getD, hj]
 rw [← e, h j hj]; simp
theorem r23_pack {w : World} {b : Nat} {T : TypeId} {rv : Bool} {ad tg : Int} {y n : W64} {a : Option Addr} {m c : Nat} {lg : Int} (h : Box w b T [.bool rv, .int .i64 ad, .int .i64 tg, .int .u64 (y.toNat : Int), .int .u64 (n.toNat : Int), .slice a m c, .int .i64 lg]) : ∃ r : R23, Box w b T (encR23 r) := ⟨⟨rv, ad, tg, y, n, a, m, c, lg⟩, h⟩
