/- Several texts in one file. -/
import Derived.Test.YtjnjalalkbamkaaGreatDoorGi
import Derived.Test.YtjnjalalkbamkaaGreatDoorNorm
set_option linter.unusedSimpArgs false
set_option linter.unusedVariables false
set_option linter.unnecessarySimpa false
/- Reading grants back: plain law. Nothing of a program stands here. -/
namespace Go.Lx
open Go
theorem uintS_put {x most : W64} {r : List UInt8} (h : x.toNat ≤ most.toNat) : uintS (putU x ++ r, 0) most = ((r, 0), x) := by
 have hn : (putU x).length ≠ 0 := by rw [putU_eq]; simp
 rw [uintS, if_pos (show ((0 : Int) == 0) = true from rfl)]
 simp only [numR_putU]
 rw [if_neg hn, if_neg (by omega), List.drop_left]
theorem countS_put {x : W64} {most : Nat} {r : List UInt8} (h : x.toNat ≤ most) : countS (putU x ++ r, 0) most = ((r, 0), x.toNat) := by
 have hn : (putU x).length ≠ 0 := by rw [putU_eq]; simp
 rw [countS, if_pos (show ((0 : Int) == 0) = true from rfl)]
 simp only [numR_putU]
 rw [if_neg hn, if_neg (by omega), List.drop_left]
theorem flagS_put (b : Bool) (r : List UInt8) : flagS (putF b :: r, 0) = ((r, 0), b) := by
 rw [flagS, if_pos (show ((0 : Int) == 0) = true from rfl), if_neg (by cases b <;> simp [putF])]
 cases b <;> simp [putF]
theorem uintS_dec (s : RSt) (most : W64) : (uintS s most).1.1.length ≤ s.1.length := by
 unfold uintS
 (repeat' split) <;> simp
theorem flagS_dec (s : RSt) : (flagS s).1.1.length ≤ s.1.length := by
 unfold flagS
 (repeat' split) <;> simp
theorem countS_dec (s : RSt) (most : Nat) : (countS s most).1.1.length ≤ s.1.length := by
 unfold countS
 (repeat' split) <;> simp
theorem countS_le (s : RSt) (most : Nat) : (countS s most).2 ≤ most := by
 unfold countS
 split
 ·split
  ·simp
  split
  ·simp
  ·simp only; omega
 ·simp
section
variable {p : List UInt8} {N k : Nat} {s : RSt} {m : List Ent}
end
end Go.Lx
/- Ops and sets of ops: their keys, their errors, their order. Nothing of a program stands here. -/
namespace Go.Lx
open Go
structure OKey where
 k : Int
 a : Int
 b : Int
 p : Perm
 deriving DecidableEq
structure COp where
 add : Bool
 k : Int
 a : Int
 b : Int
 u : Int
 p : Perm
 deriving DecidableEq
def COp.key (o : COp) : OKey := ⟨o.k, o.a, o.b, o.p⟩
def encCo (o : COp) : List Value := [.bool o.add, .int .u8 o.k, .int .i64 o.a, .int .i64 o.b, .int .i64 o.u, str o.p.act, str o.p.path, .bool o.p.deep]
def encCk (o : OKey) : List Value := [.int .u8 o.k, .int .i64 o.a, .int .i64 o.b, str o.p.act, str o.p.path, .bool o.p.deep]
theorem encCo_ok : EncOk encCo 8 := ⟨by decide, fun _ => rfl, fun x u hu => by
 simp [encCo] at hu
 rcases hu with rfl | rfl | rfl | rfl | rfl | rfl | rfl | rfl <;> rfl⟩
def coz : COp := ⟨false, 0, 0, 0, 0, pz⟩
def checkO (o : COp) : Int :=
 if o.k < 1 ∨ 3 < o.k then 1 else
 if (o.k ≠ 2 ∧ o.p ≠ pz) ∨ (o.k ≠ 1 ∧ o.u ≠ 0) ∨ (o.k = 2 ∧ o.b ≠ 0) then 6 else
 if o.k = 1 then (if o.a < 1 ∨ 256 < o.a ∨ o.b < 1 ∨ 63 < o.b ∨ o.u < 0 ∨ 30000 < o.u then 2 else 0) else
 if o.k = 2 then (if o.a < 1 ∨ 63 < o.a then 2 else checkS o.p) else
 if o.a < 1 ∨ 63 < o.a ∨ o.b < 1 ∨ 63 < o.b then 2 else if o.a = o.b then 6 else 0
structure Vo (o : COp) : Prop where
 ok : o.p.ok
 chk : checkO o = 0
theorem Vo.rng {o : COp} (h : Vo o) : 1 ≤ o.k ∧ o.k ≤ 3 ∧ 1 ≤ o.a ∧ o.a ≤ 256 ∧ 0 ≤ o.b ∧ o.b ≤ 63 ∧ 0 ≤ o.u ∧ o.u ≤ 30000 := by
 have h1 := h.chk
 unfold checkO at h1
 by_cases c1 : o.k < 1 ∨ 3 < o.k
 ·rw [if_pos c1] at h1; omega
 rw [if_neg c1] at h1
 by_cases c2 : (o.k ≠ 2 ∧ o.p ≠ pz) ∨ (o.k ≠ 1 ∧ o.u ≠ 0) ∨ (o.k = 2 ∧ o.b ≠ 0)
 ·rw [if_pos c2] at h1; omega
 rw [if_neg c2] at h1
 by_cases c3 : o.k = 1
 ·rw [if_pos c3] at h1
  by_cases c4 : o.a < 1 ∨ 256 < o.a ∨ o.b < 1 ∨ 63 < o.b ∨ o.u < 0 ∨ 30000 < o.u
  ·rw [if_pos c4] at h1; omega
  ·omega
 rw [if_neg c3] at h1
 have cu : o.u = 0 := by
  refine Classical.byContradiction fun hn => c2 (.inr (.inl ⟨c3, hn⟩))
 by_cases c5 : o.k = 2
 ·rw [if_pos c5] at h1
  have cb : o.b = 0 := Classical.byContradiction fun hn => c2 (.inr (.inr ⟨c5, hn⟩))
  by_cases c6 : o.a < 1 ∨ 63 < o.a
  ·rw [if_pos c6] at h1; omega
  ·omega
 rw [if_neg c5] at h1
 by_cases c7 : o.a < 1 ∨ 63 < o.a ∨ o.b < 1 ∨ 63 < o.b
 ·rw [if_pos c7] at h1; omega
 ·omega
theorem Vo.perm {o : COp} (h : Vo o) : o.p = pz ∨ Vp o.p := by
 have h1 := h.chk
 have hr := h.rng
 unfold checkO at h1
 rw [if_neg (by omega)] at h1
 by_cases c2 : (o.k ≠ 2 ∧ o.p ≠ pz) ∨ (o.k ≠ 1 ∧ o.u ≠ 0) ∨ (o.k = 2 ∧ o.b ≠ 0)
 ·rw [if_pos c2] at h1; omega
 rw [if_neg c2] at h1
 by_cases c5 : o.k = 2
 ·rw [if_neg (by omega), if_pos c5] at h1
  by_cases c6 : o.a < 1 ∨ 63 < o.a
  ·rw [if_pos c6] at h1; omega
  ·rw [if_neg c6] at h1; exact .inr ⟨h.ok, h1⟩
 ·exact .inl (Classical.byContradiction fun hn => c2 (.inl ⟨c5, hn⟩))
def cmpK (x y : OKey) : Int := if x.k ≠ y.k then x.k - y.k else if x.a ≠ y.a then x.a - y.a else if x.b ≠ y.b then x.b - y.b else cmpM x.p y.p
def cmpO (x y : COp) : Int := if cmpK x.key y.key ≠ 0 then cmpK x.key y.key else if x.add = y.add then 0 else if y.add then -1 else 1
abbrev WP := { x : Perm // x = pz ∨ Vp x }
theorem cmpS_nil {s : Str} (h : s ≠ []) : cmpS [] s = -1 ∧ cmpS s [] = 1 := by
 have h1 : cmpS s [] ≠ 0 := fun e => h ((cmpS_is.eq _ _).1 e)
 have h2 : Op.bytesLess s [] = false := by cases s <;> rfl
 have h3 := cmpS_cases s []
 have h4 : cmpS s [] = 1 := by
  rcases h3 with ⟨_, e⟩ | ⟨e, _⟩ | ⟨e, _⟩
  ·rw [h2] at e; cases e
  ·exact absurd e h1
  ·exact e
 exact ⟨by rw [cmpS_is.anti s [], h4], h4⟩
theorem Vp.act {x : Perm} (h : Vp x) : x.act ≠ [] := fun e => by
 have h1 := h.2
 unfold checkS at h1
 rw [e] at h1
 simp [nmS] at h1
theorem cmpM_pz {x : Perm} (h : Vp x) : cmpM pz x = -1 ∧ cmpM x pz = 1 := by
 obtain ⟨h1, h2⟩ := cmpS_nil h.act
 constructor
 ·show (if cmpS [] x.act != 0 then cmpS [] x.act else _) = _
  rw [h1]; rfl
 ·show (if cmpS x.act [] != 0 then cmpS x.act [] else _) = _
  rw [h2]; rfl
theorem cmpM_pp : cmpM pz pz = 0 := by decide +kernel
theorem not_vp : ¬ Vp pz := fun h => h.act rfl
theorem cmpW_is : IsCmp fun a b : WP => cmpM a.1 b.1 := by
 refine ⟨?_, ?_, ?_⟩
 ·rintro ⟨a, rfl | ha⟩ ⟨b, rfl | hb⟩
  ·exact ⟨fun _ => rfl, fun _ => cmpM_pp⟩
  ·constructor
   ·intro e; simp only [(cmpM_pz hb).1] at e; omega
   ·intro e; have := Subtype.mk.inj e; subst this; exact absurd hb not_vp
  ·constructor
   ·intro e; simp only [(cmpM_pz ha).2] at e; omega
   ·intro e; have := Subtype.mk.inj e; subst this; exact absurd ha not_vp
  ·have := cmpV_is.eq ⟨a, ha⟩ ⟨b, hb⟩
   simp only [Subtype.mk.injEq] at this ⊢
   exact this
 ·rintro ⟨a, rfl | ha⟩ ⟨b, rfl | hb⟩
  ·simp only [cmpM_pp]; rfl
  ·simp only [(cmpM_pz hb).1, (cmpM_pz hb).2]; rfl
  ·simp only [(cmpM_pz ha).1, (cmpM_pz ha).2]
  ·exact cmpV_is.anti ⟨a, ha⟩ ⟨b, hb⟩
 ·rintro ⟨a, rfl | ha⟩ ⟨b, rfl | hb⟩ ⟨c, rfl | hc⟩ h1 h2
  ·simp only [cmpM_pp] at h1; omega
  ·exact h2
  ·simp only [(cmpM_pz hb).2] at h2; omega
  ·simp only [(cmpM_pz hc).1]; omega
  ·simp only [(cmpM_pz ha).2] at h1; omega
  ·simp only [(cmpM_pz ha).2] at h1; omega
  ·simp only [(cmpM_pz hb).2] at h2; omega
  ·exact cmpV_is.tr ⟨a, ha⟩ ⟨b, hb⟩ ⟨c, hc⟩ h1 h2
def cmpD (a b : Int) : Int := a - b
theorem cmpD_is : IsCmp cmpD := ⟨fun a b => by unfold cmpD; omega, fun a b => by unfold cmpD; omega, fun a b c => by unfold cmpD; omega⟩
def Wk (x : OKey) : Prop := x.p = pz ∨ Vp x.p
abbrev WK := { x : OKey // Wk x }
def keyK (x : WK) : Int × Int × Int × WP := (x.1.k, x.1.a, x.1.b, ⟨x.1.p, x.2⟩)
theorem cmpK_lex (x y : WK) : cmpK x.1 y.1 = lex cmpD (lex cmpD (lex cmpD fun a b : WP => cmpM a.1 b.1)) (keyK x) (keyK y) := by
 simp only [cmpK, lex, keyK, cmpD]
 by_cases h1 : x.1.k = y.1.k
 ·by_cases h2 : x.1.a = y.1.a
  ·by_cases h3 : x.1.b = y.1.b
   ·simp [h1, h2, h3]
   ·have : ¬ x.1.b - y.1.b = 0 := by omega
    simp [h1, h2, h3, this]
  ·have : ¬ x.1.a - y.1.a = 0 := by omega
   simp [h1, h2, this]
 ·have : ¬ x.1.k - y.1.k = 0 := by omega
  simp [h1, this]
theorem cmpK_is : IsCmp fun a b : WK => cmpK a.1 b.1 := by
 have h := (lex_is cmpD_is (lex_is cmpD_is (lex_is cmpD_is cmpW_is))).map keyK (fun a b e => by
  obtain ⟨⟨k1, a1, b1, p1⟩, ha⟩ := a
  obtain ⟨⟨k2, a2, b2, p2⟩, hb⟩ := b
  simp only [keyK, Prod.mk.injEq, Subtype.mk.injEq] at e
  obtain ⟨rfl, rfl, rfl, e4⟩ := e
  have e5 := Subtype.mk.inj e4
  subst e5
  rfl)
 have e : (fun a b : WK => cmpK a.1 b.1) = fun a b : WK => lex cmpD (lex cmpD (lex cmpD fun a b : WP => cmpM a.1 b.1)) (keyK a) (keyK b) := by
  funext a b; exact cmpK_lex a b
 rw [e]; exact h
def Wo (x : COp) : Prop := Wk x.key
theorem Vo.wo {o : COp} (h : Vo o) : Wo o := h.perm
section
variable {x y z : COp}
theorem cmpK_eq (hx : Wo x) (hy : Wo y) : cmpK x.key y.key = 0 ↔ x.key = y.key := by
 have := cmpK_is.eq ⟨x.key, hx⟩ ⟨y.key, hy⟩
 exact this.trans ⟨fun e => congrArg Subtype.val e, fun e => Subtype.ext e⟩
theorem cmpK_anti (hx : Wo x) (hy : Wo y) : cmpK y.key x.key = - cmpK x.key y.key := cmpK_is.anti ⟨x.key, hx⟩ ⟨y.key, hy⟩
def cmpF (x y : COp) : Int := if cmpO x y ≠ 0 then cmpO x y else x.u - y.u
abbrev WO := { x : COp // Wo x }
def keyF (x : WO) : WK × Bool × Int := (⟨x.1.key, x.2⟩, x.1.add, x.1.u)
theorem cmpO_lex (x y : WO) : cmpO x.1 y.1 = lex (fun a b : WK => cmpK a.1 b.1) cmpB ((keyF x).1, (keyF x).2.1) ((keyF y).1, (keyF y).2.1) := by
 simp only [cmpO, lex, keyF, cmpB]
 by_cases h1 : cmpK x.1.key y.1.key = 0
 ·by_cases h2 : x.1.add = y.1.add <;> (simp [h1, h2] <;> rfl)
 ·simp [h1]
theorem cmpF_lex (x y : WO) : cmpF x.1 y.1 = lex (fun a b : WK => cmpK a.1 b.1) (lex cmpB cmpD) (keyF x) (keyF y) := by
 rw [cmpF, cmpO_lex]
 simp only [lex, keyF, cmpD]
 by_cases h1 : cmpK x.1.key y.1.key = 0
 ·by_cases h2 : cmpB x.1.add y.1.add = 0
  ·simp [h1, h2]
  ·simp [h1, h2]
 ·simp [h1]
theorem cmpF_is : IsCmp fun a b : WO => cmpF a.1 b.1 := by
 have h := (lex_is cmpK_is (lex_is cmpB_is cmpD_is)).map keyF (fun a b e => by
  obtain ⟨⟨d1, k1, a1, b1, u1, p1⟩, ha⟩ := a
  obtain ⟨⟨d2, k2, a2, b2, u2, p2⟩, hb⟩ := b
  simp only [keyF, Prod.mk.injEq, Subtype.mk.injEq, COp.key, OKey.mk.injEq] at e
  obtain ⟨⟨rfl, rfl, rfl, rfl⟩, rfl, rfl⟩ := e
  rfl)
 have e : (fun a b : WO => cmpF a.1 b.1) = fun a b : WO => lex (fun a b : WK => cmpK a.1 b.1) (lex cmpB cmpD) (keyF a) (keyF b) := by
  funext a b; exact cmpF_lex a b
 rw [e]; exact h
theorem cmpO_eq (hx : Wo x) (hy : Wo y) : cmpO x y = 0 ↔ x.key = y.key ∧ x.add = y.add := by
 unfold cmpO
 rw [← cmpK_eq hx hy]
 by_cases h : cmpK x.key y.key = 0
 ·rw [if_neg (by simpa using h)]
  by_cases h2 : x.add = y.add
  ·rw [if_pos h2]; exact ⟨fun _ => ⟨h, h2⟩, fun _ => rfl⟩
  ·rw [if_neg h2]
   constructor
   ·intro e; split at e <;> omega
   ·intro e; exact absurd e.2 h2
 ·rw [if_pos h]; exact ⟨fun e => absurd e h, fun e => absurd e.1 h⟩
theorem cmpO_anti (hx : Wo x) (hy : Wo y) : cmpO y x = - cmpO x y := by
 rw [cmpO_lex ⟨y, hy⟩ ⟨x, hx⟩, cmpO_lex ⟨x, hx⟩ ⟨y, hy⟩]
 exact (lex_is cmpK_is cmpB_is).anti _ _
theorem cmpO_tr (hx : Wo x) (hy : Wo y) (hz : Wo z) (h : cmpO x y < 0) (h2 : cmpO y z < 0) : cmpO x z < 0 := by
 rw [cmpO_lex ⟨x, hx⟩ ⟨y, hy⟩] at h
 rw [cmpO_lex ⟨y, hy⟩ ⟨z, hz⟩] at h2
 rw [cmpO_lex ⟨x, hx⟩ ⟨z, hz⟩]
 exact (lex_is cmpK_is cmpB_is).tr _ _ _ h h2
theorem cmpO_le_K (h : cmpO x y ≤ 0) : cmpK x.key y.key ≤ 0 := by
 unfold cmpO at h
 by_cases h1 : cmpK x.key y.key = 0
 ·omega
 ·rw [if_pos h1] at h; exact h
theorem cmpO_same (h : cmpO x y ≤ 0) (hk : cmpK x.key y.key = 0) : x.add = y.add ∨ (x.add = false ∧ y.add = true) := by
 unfold cmpO at h
 rw [if_neg (by simpa using hk)] at h
 cases hx : x.add <;> cases hy : y.add <;> simp [hx, hy] at h ⊢
end
def confl (x y : COp) : Bool := decide (x.key = y.key) && (x.k != 1 || x.add == y.add || x.u == y.u)
theorem confl_symm (x y : COp) : confl x y = confl y x := by
 unfold confl
 by_cases h : x.key = y.key
 ·have hk : x.k = y.k := congrArg OKey.k h
  rw [decide_eq_true h, decide_eq_true h.symm, hk]
  have e1 : (x.add == y.add) = (y.add == x.add) := by rw [Bool.eq_iff_iff, beq_iff_eq, beq_iff_eq]; exact ⟨Eq.symm, Eq.symm⟩
  have e2 : (x.u == y.u) = (y.u == x.u) := by rw [Bool.eq_iff_iff, beq_iff_eq, beq_iff_eq]; exact ⟨Eq.symm, Eq.symm⟩
  rw [e1, e2]
 ·rw [decide_eq_false h, decide_eq_false (fun e => h e.symm)]; rfl
def CF (l : List COp) : Prop := l.Pairwise fun x y => confl x y = false
instance (l : List COp) : Decidable (CF l) := inferInstanceAs (Decidable (l.Pairwise _))
theorem CF.perm {l m : List COp} (h : CF l) (hp : l.Perm m) : CF m := (hp.pairwise_iff (fun {a b} e => by rw [confl_symm]; exact e)).1 h
theorem confl_no {x y : COp} (h : confl x y = false) (hk : x.key = y.key) : x.k = 1 ∧ x.add ≠ y.add ∧ x.u ≠ y.u := by
 unfold confl at h
 rw [decide_eq_true hk, Bool.true_and, Bool.or_eq_false_iff, Bool.or_eq_false_iff] at h
 exact ⟨by simpa using h.1.1, by simpa using h.1.2, by simpa using h.2⟩
def sortO (l : List COp) : List COp := l.foldl (fun acc o => insGo cmpO o acc) []
section
variable {α : Type} {f : α → α → Int}
theorem insGo_perm (p : α) : ∀ (l : List α), (insGo f p l).Perm (p :: l)
 | [] => List.Perm.refl _
 | y :: r => by
  unfold insGo
  split
  ·exact List.Perm.refl _
  ·exact ((insGo_perm p r).cons y).trans (List.Perm.swap _ _ _)
theorem insF_perm : ∀ (l acc : List α), (l.foldl (fun acc o => insGo f o acc) acc).Perm (l ++ acc)
 | [], acc => List.Perm.refl _
 | x :: r, acc => by
  refine (insF_perm r (insGo f x acc)).trans ?_
  exact ((insGo_perm x acc).append_left r).trans List.perm_middle
end
theorem sortO_perm (l : List COp) : (sortO l).Perm l := by
 have := insF_perm (f := cmpO) l []
 rwa [List.append_nil] at this
theorem insGo_le {p : COp} (hp : Wo p) : ∀ {l : List COp}, (∀ x ∈ l, Wo x) → l.Pairwise (fun x y => cmpO x y ≤ 0) → (insGo cmpO p l).Pairwise (fun x y => cmpO x y ≤ 0)
 | [], _, _ => by simp [insGo]
 | y :: r, hw, hl => by
  obtain ⟨h1, h2⟩ := List.pairwise_cons.1 hl
  have hy := hw y (by simp)
  unfold insGo
  split
  ·rename_i hlt
   refine List.pairwise_cons.2 ⟨fun z hz => ?_, hl⟩
   rcases List.mem_cons.1 hz with rfl | hz
   ·omega
   ·have hzw := hw z (by simp [hz])
    have hyz := h1 z hz
    rcases Int.lt_or_eq_of_le hyz with h3 | h3
    ·have := cmpO_tr hp hy hzw hlt h3; omega
    ·-- y and z stand alike
     have e1 := (cmpO_eq hy hzw).1 h3
     have : cmpO p z = cmpO p y := by
      unfold cmpO
      rw [e1.1, e1.2]
     omega
  ·rename_i hge
   refine List.pairwise_cons.2 ⟨fun z hz => ?_, insGo_le hp (fun x hx => hw x (by simp [hx])) h2⟩
   rcases insGo_mem.1 hz with rfl | hz
   ·have := cmpO_anti hp hy; omega
   ·exact h1 z hz
theorem insF_le : ∀ (l acc : List COp), (∀ x ∈ l, Wo x) → (∀ x ∈ acc, Wo x) → acc.Pairwise (fun x y => cmpO x y ≤ 0) → (l.foldl (fun acc o => insGo cmpO o acc) acc).Pairwise (fun x y => cmpO x y ≤ 0)
 | [], acc, _, _, h => h
 | x :: r, acc, hl, ha, h => by
  refine insF_le r (insGo cmpO x acc) (fun z hz => hl z (by simp [hz])) (fun z hz => ?_) (insGo_le (hl x (by simp)) ha h)
  rcases insGo_mem.1 hz with rfl | hz
  ·exact hl z (by simp)
  ·exact ha z hz
theorem sortO_le {l : List COp} (hl : ∀ x ∈ l, Wo x) : (sortO l).Pairwise (fun x y => cmpO x y ≤ 0) := insF_le l [] hl (by simp) List.Pairwise.nil
theorem le_lt {l : List COp} (hl : ∀ x ∈ l, Wo x) (hc : CF l) (h : l.Pairwise fun x y => cmpO x y ≤ 0) : l.Pairwise fun x y => cmpO x y < 0 := by
 refine (h.and hc).imp_of_mem fun {x y} hx hy hh => ?_
 rcases Int.lt_or_eq_of_le hh.1 with h3 | h3
 ·exact h3
 ·have e := (cmpO_eq (hl x hx) (hl y hy)).1 h3
  exact absurd e.2 (confl_no hh.2 e.1).2.1
theorem lt_cmpF {x y : COp} (h : cmpO x y < 0) : cmpF x y < 0 := by
 unfold cmpF; rw [if_pos (by omega)]; exact h
def woL : (l : List COp) → (∀ x ∈ l, Wo x) → List WO
 | [], _ => []
 | x :: r, h => ⟨x, h x (by simp)⟩ :: woL r (fun y hy => h y (by simp [hy]))
theorem woL_map : ∀ (l : List COp) (h : ∀ x ∈ l, Wo x), (woL l h).map (·.1) = l
 | [], _ => rfl
 | x :: r, h => by simp [woL, woL_map r]
theorem lt_unique {a b : List COp} (ha : ∀ x ∈ a, Wo x) (hb : ∀ x ∈ b, Wo x) (h1 : a.Pairwise fun x y => cmpO x y < 0) (h2 : b.Pairwise fun x y => cmpO x y < 0) (hm : ∀ x, x ∈ a ↔ x ∈ b) : a = b := by
 have e : woL a ha = woL b hb := by
  refine pw_unique cmpF_is ?_ ?_ ?_
  ·rw [← List.pairwise_map (f := fun x : WO => x.1) (R := fun x y => cmpF x y < 0), woL_map]; exact h1.imp lt_cmpF
  ·rw [← List.pairwise_map (f := fun x : WO => x.1) (R := fun x y => cmpF x y < 0), woL_map]; exact h2.imp lt_cmpF
  ·rintro ⟨x, hx⟩
   have e1 : ∀ (l : List COp) (h : ∀ x ∈ l, Wo x), (⟨x, hx⟩ : WO) ∈ woL l h ↔ x ∈ l := fun l h => by
    conv => rhs; rw [← woL_map l h]
    rw [List.mem_map]
    exact ⟨fun q => ⟨_, q, rfl⟩, fun ⟨q, hq, e⟩ => by have : q = ⟨x, hx⟩ := Subtype.ext e; exact this ▸ hq⟩
   rw [e1, e1]; exact hm x
 rw [← woL_map a ha, e, woL_map]
theorem sort_unique {l m : List COp} (hl : ∀ x ∈ l, Wo x) (hc : CF l) (hp : m.Perm l) (hs : m.Pairwise fun x y => cmpO x y ≤ 0) : m = sortO l := by
 have hm : ∀ x ∈ m, Wo x := fun x hx => hl x (hp.mem_iff.1 hx)
 have hso : ∀ x ∈ sortO l, Wo x := fun x hx => hl x ((sortO_perm l).mem_iff.1 hx)
 exact lt_unique hm hso (le_lt hm (hc.perm hp.symm) hs) (le_lt hso (hc.perm (sortO_perm l).symm) (sortO_le hl)) fun x => by rw [hp.mem_iff, (sortO_perm l).mem_iff]
def adjB (x y : COp) : Bool := decide (x.key = y.key) && (x.add || !y.add || x.k != 1 || x.u == y.u)
theorem adj_confl {x y : COp} (hx : Wo x) (hy : Wo y) (h : cmpO x y ≤ 0) : adjB x y = confl x y := by
 unfold adjB confl
 by_cases hk : x.key = y.key
 ·rw [decide_eq_true hk, Bool.true_and, Bool.true_and]
  rcases cmpO_same h ((cmpK_eq hx hy).2 hk) with e | ⟨e1, e2⟩
  ·rw [e]; cases y.add <;> simp
  ·rw [e1, e2]; simp
 ·rw [decide_eq_false hk]; rfl
theorem adj_cf {l : List COp} (hl : ∀ x ∈ l, Wo x) (hs : l.Pairwise fun x y => cmpO x y ≤ 0) (ha : ∀ i, i + 1 < l.length → adjB (l.getD i coz) (l.getD (i + 1) coz) = false) : CF l := by
 rw [CF, List.pairwise_iff_getElem]
 have hg : ∀ i (h : i < l.length), l.getD i coz = l[i] := fun i h => by simp [List.getD, h]
 have hm : ∀ i (h : i < l.length), Wo l[i] := fun i h => hl _ (List.getElem_mem h)
 have hle : ∀ i j (hi : i < l.length) (hj : j < l.length), i < j → cmpO l[i] l[j] ≤ 0 := fun i j hi hj h => List.pairwise_iff_getElem.1 hs i j hi hj h
 have adj : ∀ i (hi : i + 1 < l.length), confl l[i] l[i + 1] = false := fun i hi => by
  have := ha i hi
  rw [hg i (by omega), hg (i + 1) hi, adj_confl (hm i (by omega)) (hm _ hi) (hle i (i + 1) (by omega) hi (by omega))] at this
  exact this
 intro i j hi hj hij
 rcases Nat.lt_or_ge (i + 1) j with h2 | h2
 ·rw [Bool.eq_false_iff]
  intro hc
  have hk : l[i].key = l[j].key := by
   unfold confl at hc
   rw [Bool.and_eq_true] at hc
   exact of_decide_eq_true hc.1
  -- the ones between have the key too
  have hmid : ∀ m (hm' : m < l.length), i < m → m < j → l[m].key = l[i].key := fun m hm' h3 h4 => by
   have a1 := cmpO_le_K (hle i m hi hm' h3)
   have a2 := cmpO_le_K (hle m j hm' hj h4)
   rw [← hk] at a2
   have a3 := cmpK_anti (hm i hi) (hm m hm')
   exact ((cmpK_eq (hm m hm') (hm i hi)).1 (by omega))
  have k1 := hmid (i + 1) (by omega) (by omega) h2
  have c1 := confl_no (adj i (by omega)) k1.symm
  have s1 := cmpO_same (hle i (i + 1) hi (by omega) (by omega)) ((cmpK_eq (hm i hi) (hm _ _)).2 k1.symm)
  have t1 : l[i + 1].add = true := by
   rcases s1 with e | e
   ·exact absurd e c1.2.1
   ·exact e.2
  have k2 : l[i + 2].key = l[i].key := by
   rcases Nat.lt_or_ge (i + 2) j with h5 | h5
   ·exact hmid (i + 2) (by omega) (by omega) h5
   ·have : j = i + 2 := by omega
    subst this; exact hk.symm
  have c2 := confl_no (adj (i + 1) (by omega)) (k1.trans k2.symm)
  have s2 := cmpO_same (hle (i + 1) (i + 2) (by omega) (by omega) (by omega)) ((cmpK_eq (hm _ _) (hm _ _)).2 (k1.trans k2.symm))
  rcases s2 with e | e
  ·exact absurd e c2.2.1
  ·rw [t1] at e; exact absurd e.1 (by decide)
 ·have : j = i + 1 := by omega
  subst this
  exact adj i hj
theorem cf_adj {l : List COp} (hl : ∀ x ∈ l, Wo x) (hs : l.Pairwise fun x y => cmpO x y ≤ 0) (hc : CF l) {i : Nat} (hi : i + 1 < l.length) : adjB (l.getD i coz) (l.getD (i + 1) coz) = false := by
 have hg : ∀ i (h : i < l.length), l.getD i coz = l[i] := fun i h => by simp [List.getD, h]
 rw [hg i (by omega), hg (i + 1) hi, adj_confl (hl _ (List.getElem_mem _)) (hl _ (List.getElem_mem _)) (List.pairwise_iff_getElem.1 hs i (i + 1) (by omega) hi (by omega))]
 exact List.pairwise_iff_getElem.1 hc i (i + 1) (by omega) hi (by omega)
structure Kr (x : OKey) : Prop where
 k : 0 ≤ x.k ∧ x.k ≤ 255
 a : 0 ≤ x.a ∧ x.a ≤ 256
 b : 0 ≤ x.b ∧ x.b ≤ 256
 ok : x.p.ok
theorem Vo.kr {o : COp} (h : Vo o) : Kr o.key := by
 have h1 := h.rng
 exact ⟨⟨by show 0 ≤ o.k; omega, by show o.k ≤ 255; omega⟩, ⟨by show 0 ≤ o.a; omega, by show o.a ≤ 256; omega⟩, ⟨by show 0 ≤ o.b; omega, by show o.b ≤ 256; omega⟩, h.ok⟩
def errO (l : List COp) : Int := ((l.find? fun o => checkO o != 0).map checkO).getD 0
def ofO (l : List COp) : List COp × Int := if errO l ≠ 0 then ([], errO l) else if CF l then (sortO l, 0) else ([], 12)
theorem errO_none {l : List COp} : errO l = 0 ↔ ∀ o ∈ l, checkO o = 0 := by
 unfold errO
 cases h : l.find? fun o => checkO o != 0 with
 | none =>
  rw [List.find?_eq_none] at h
  exact ⟨fun _ o ho => by have := h o ho; simpa using this, fun _ => rfl⟩
 | some x =>
  have h1 := List.find?_some h
  have h2 := List.mem_of_find?_eq_some h
  simp only [bne_iff_ne, ne_eq] at h1
  exact ⟨fun e => absurd e h1, fun e => absurd (e x h2) h1⟩
theorem errO_at {l : List COp} {k : Nat} (hk : k < l.length) (hn : ∀ j, j < k → checkO (l.getD j coz) = 0) (he : checkO (l.getD k coz) ≠ 0) : errO l = checkO (l.getD k coz) := by
 have e1 : l = l.take k ++ l.getD k coz :: l.drop (k + 1) := by
  have : l.getD k coz = l[k] := by simp [List.getD, hk]
  rw [this, ← List.drop_eq_getElem_cons hk, List.take_append_drop]
 have e2 : (l.take k).find? (fun o => checkO o != 0) = none := by
  rw [List.find?_eq_none]
  intro o ho
  obtain ⟨j, hj, rfl⟩ := List.mem_iff_getElem.1 ho
  rw [List.length_take] at hj
  have := hn j (by omega)
  rw [List.getElem_take]
  have e3 : l.getD j coz = l[j] := by simp [List.getD, show j < l.length by omega]
  rw [e3] at this
  simpa using this
 unfold errO
 have e4 : l.find? (fun o => checkO o != 0) = some (l.getD k coz) := by
  rw [e1, List.find?_append, e2, Option.none_or]
  have h5 : ∀ (z : COp) (r : List COp), checkO z ≠ 0 → (z :: r).find? (fun o => checkO o != 0) = some z := fun z r hz => by
   rw [List.find?_cons_of_pos]
   simpa using hz
  rw [← e1]; exact h5 _ _ he
 rw [e4]; rfl
section
variable {x y : COp}
end
end Go.Lx
/- Two sets of ops, merged: what is in no conflict, the conflicts, a choice. Nothing of a program stands here. -/
namespace Go.Lx
open Go
def wsS (a : Option Addr) (n c : Nat) : List Value := [.slice a n c]
structure VS (l : List COp) : Prop where
 v : ∀ x ∈ l, Vo x
 cf : CF l
 pw : l.Pairwise fun x y => cmpO x y < 0
theorem VS.nil : VS [] := ⟨by simp, List.Pairwise.nil, List.Pairwise.nil⟩
theorem VS.wo {l : List COp} (h : VS l) : ∀ x ∈ l, Wo x := fun x hx => (h.v x hx).wo
theorem VS.le {l : List COp} (h : VS l) : l.Pairwise fun x y => cmpO x y ≤ 0 := h.pw.imp fun h => Int.le_of_lt h
theorem of_good {l : List COp} (hv : ∀ x ∈ l, Vo x) (hc : CF l) : ofO l = (sortO l, 0) := by
 unfold ofO
 rw [if_neg (by rw [errO_none.2 fun o ho => (hv o ho).chk]; simp), if_pos hc]
theorem VS.sorted {l : List COp} (h : VS l) : sortO l = l := (sort_unique h.wo h.cf (List.Perm.refl _) h.le).symm
theorem VS.of {l : List COp} (h : VS l) : ofO l = (l, 0) := by rw [of_good h.v h.cf, h.sorted]
theorem VS.sub {l m : List COp} (h : VS l) (hm : m.Sublist l) : VS m := ⟨fun x hx => h.v x (hm.subset hx), h.cf.sublist hm, h.pw.sublist hm⟩
theorem cmpK_self {x : OKey} (h : Wk x) : cmpK x x = 0 := cmpK_is.irr ⟨x, h⟩
theorem cmpO_self {x : COp} (h : Wo x) : cmpO x x = 0 := by
 unfold cmpO; rw [if_neg (by rw [cmpK_self h]; simp), if_pos rfl]
theorem VS.ne {l : List COp} (h : VS l) {i j : Nat} (hi : i < l.length) (hj : j < l.length) (hij : i < j) : l[i] ≠ l[j] := fun e => by
 have h1 := List.pairwise_iff_getElem.1 h.pw i j hi hj hij
 rw [e, cmpO_self (h.wo _ (List.getElem_mem _))] at h1
 omega
structure Cfl where
 κ : OKey
 o : COp
 t : COp
 deriving DecidableEq
end Go.Lx
/- A number that is read from the front is written so and no other way: plain law. Nothing of a program stands here. -/
namespace Go.Lx
open Go
theorem grp_b7 {v : W64} {b : UInt8} (h : v.toNat < 2 ^ 57) : (b7 (grp v b)).toNat = b.toNat % 128 ∧ (grp v b) >>> 7 = v := by
 have hg := grp_nat (v := v) (b := b) h
 constructor
 ·rw [b7_nat, hg]; omega
 ·apply BitVec.eq_of_toNat_eq
  rw [BitVec.toNat_ushiftRight, Nat.shiftRight_eq_div_pow, hg]; omega
theorem gT_grp {v : W64} {b : UInt8} (h : v.toNat < 2 ^ 57) (hb : 128 ≤ b.toNat) (hn : grp v b ≠ 0) : (gT (grp v b)).reverse = (gT v).reverse ++ [b] := by
 obtain ⟨h1, h2⟩ := grp_b7 (v := v) (b := b) h
 rw [gT_some hn, List.reverse_cons, h2]
 have e : b7 (grp v b) ||| 128 = b := by
  rw [← UInt8.toNat_inj, b8_nat _ (by omega), h1]
  have := b.toNat_lt; omega
 rw [e]
theorem numGo_put : ∀ (l : List UInt8) (k : Nat) (v x : W64) (n : Nat), (k = 0 → v = 0) → (k ≠ 0 → v ≠ 0) → numGo k v l = (x, n) → n ≠ 0 → k < n ∧ (gT v).reverse ++ l.take (n - k) = putU x
 | [], k, v, x, n, _, _, h, hn => by
  rw [numGo] at h
  exact absurd (congrArg Prod.snd h).symm hn
 | b :: r, k, v, x, n, h0, h1, h, hn => by
  rw [numGo] at h
  by_cases hb : ((k == 0 && b == 128) || decide (144115188075855871 < v.toNat)) = true
  ·rw [if_pos hb] at h; exact absurd (congrArg Prod.snd h).symm hn
  rw [if_neg hb] at h
  rw [Bool.not_eq_true, Bool.or_eq_false_iff] at hb
  have hv : v.toNat < 2 ^ 57 := by have := of_decide_eq_false hb.2; omega
  by_cases hs : b.toNat < 128
  ·rw [if_pos hs] at h
   obtain ⟨rfl, rfl⟩ := Prod.mk.inj h
   refine ⟨by omega, ?_⟩
   obtain ⟨h2, h3⟩ := grp_b7 (v := v) (b := b) hv
   rw [putU_eq, h3, show k + 1 - k = 1 by omega]
   have e : b7 (grp v b) = b := by rw [← UInt8.toNat_inj, h2]; omega
   rw [e]; rfl
  ·rw [if_neg hs] at h
   have hg : grp v b ≠ 0 := fun e => by
    have hz := grp_nat (v := v) (b := b) hv
    rw [e] at hz
    have hz' : v.toNat * 128 + b.toNat % 128 = 0 := hz.symm
    by_cases hk : k = 0
    ·have hb1 : (b == 128) = false := by have := hb.1; rw [hk] at this; simpa using this
     have hb2 : b.toNat ≠ 128 := fun e => by
      have : b = 128 := by rw [← UInt8.toNat_inj, e]; rfl
      rw [this] at hb1; cases hb1
     have := b.toNat_lt; omega
    ·exact h1 hk (BitVec.eq_of_toNat_eq (by show v.toNat = 0; omega))
   obtain ⟨h2, h3⟩ := numGo_put r (k + 1) (grp v b) x n (fun e => by omega) (fun _ => hg) h hn
   refine ⟨by omega, ?_⟩
   rw [gT_grp hv (by omega) hg] at h3
   rw [show n - k = (n - (k + 1)) + 1 by omega, List.take_succ_cons, ← h3, List.append_assoc]; rfl
theorem numR_back {l : List UInt8} (h : (numR l).2 ≠ 0) : l = putU (numR l).1 ++ l.drop (numR l).2 := by
 have := (numGo_put l 0 0 (numR l).1 (numR l).2 (fun _ => rfl) (fun h => absurd rfl h) rfl h).2
 rw [show gT 0 = [] from gT_zero] at this
 simp only [List.reverse_nil, List.nil_append, Nat.sub_zero] at this
 rw [← this, List.take_append_drop]
theorem uintS_back {s : RSt} {most : W64} (h : (uintS s most).1.2 = 0) : s.2 = 0 ∧ s.1 = putU (uintS s most).2 ++ (uintS s most).1.1 := by
 unfold uintS at h ⊢
 by_cases hs : (s.2 == 0) = true
 ·rw [if_pos hs] at h ⊢
  by_cases hn : (numR s.1).2 = 0
  ·rw [if_pos hn] at h; simp at h
  rw [if_neg hn] at h ⊢
  by_cases hm : most.toNat < (numR s.1).1.toNat
  ·rw [if_pos hm] at h; simp at h
  rw [if_neg hm]
  exact ⟨eq_of_beq hs, numR_back hn⟩
 ·rw [if_neg hs] at h
  exact absurd (beq_iff_eq.2 h) hs
theorem countS_back {s : RSt} {most : Nat} (h : (countS s most).1.2 = 0) : s.2 = 0 ∧ s.1 = putU (BitVec.ofNat 64 (countS s most).2) ++ (countS s most).1.1 := by
 unfold countS at h ⊢
 by_cases hs : (s.2 == 0) = true
 ·rw [if_pos hs] at h ⊢
  by_cases hn : (numR s.1).2 = 0
  ·rw [if_pos hn] at h; simp at h
  rw [if_neg hn] at h ⊢
  by_cases hm : most < (numR s.1).1.toNat
  ·rw [if_pos hm] at h; simp at h
  rw [if_neg hm]
  refine ⟨eq_of_beq hs, ?_⟩
  have e : BitVec.ofNat 64 (numR s.1).1.toNat = (numR s.1).1 := BitVec.eq_of_toNat_eq (by rw [BitVec.toNat_ofNat]; exact Nat.mod_eq_of_lt (numR s.1).1.isLt)
  rw [e]
  exact numR_back hn
 ·rw [if_neg hs] at h
  exact absurd (beq_iff_eq.2 h) hs
theorem flagS_back {s : RSt} (h : (flagS s).1.2 = 0) : s.2 = 0 ∧ s.1 = putF (flagS s).2 :: (flagS s).1.1 := by
 unfold flagS at h ⊢
 by_cases hs : (s.2 == 0) = true
 ·rw [if_pos hs] at h ⊢
  by_cases hn : s.1 = [] ∨ 1 < (s.1.getD 0 0).toNat
  ·rw [if_pos hn] at h; simp at h
  rw [if_neg hn]
  refine ⟨eq_of_beq hs, ?_⟩
  cases hl : s.1 with
  | nil => exact absurd (.inl hl) hn
  | cons c r =>
   rw [hl] at hn
   simp only [List.getD_cons_zero, List.drop_one, List.tail_cons]
   congr 1
   have hc : ¬ 1 < c.toNat := fun h => hn (.inr h)
   by_cases h1 : c = 1
   ·subst h1; rfl
   ·have h0 : c = 0 := by
     rw [← UInt8.toNat_inj]
     have h2 : c.toNat ≠ 1 := fun e => h1 (by rw [← UInt8.toNat_inj, e]; rfl)
     show c.toNat = 0; omega
    subst h0; rfl
 ·rw [if_neg hs] at h
  exact absurd (beq_iff_eq.2 h) hs
end Go.Lx
/- The bytes of a set of ops, written and read: plain law. Nothing of a program stands here. -/
namespace Go.Lx
open Go
def rdN (s : RSt) (most : Nat) : RSt × Int := ((uintS s (BitVec.ofNat 64 most)).1, ((uintS s (BitVec.ofNat 64 most)).2.toNat : Int))
theorem iW_nat {n : Nat} (h : n < 2 ^ 64) : iW (n : Int) = BitVec.ofNat 64 n := by rw [iW]; rfl
theorem iW_toNat (x : W64) : iW (x.toNat : Int) = x := by rw [iW]; simp
theorem rdN_back {s : RSt} {most : Nat} (h : (rdN s most).1.2 = 0) : s.2 = 0 ∧ s.1 = putU (iW (rdN s most).2) ++ (rdN s most).1.1 := by
 unfold rdN at h ⊢
 simp only [iW_toNat] at h ⊢
 exact uintS_back h
theorem endS_z {s : RSt} (h : endS s = 0) : s.2 = 0 ∧ s.1 = [] := by
 unfold endS at h
 by_cases hc : (s.2 == 0) = true ∧ s.1 ≠ []
 ·rw [if_pos hc] at h; cases h
 ·rw [if_neg hc] at h
  exact ⟨h, Classical.byContradiction fun e => hc ⟨beq_iff_eq.2 h, e⟩⟩
theorem rdN_put {i : Int} {most : Nat} (h0 : 0 ≤ i) (h1 : i ≤ most) (hm : most < 2 ^ 64) (r : List UInt8) : rdN (putU (iW i) ++ r, 0) most = ((r, 0), i) := by
 have hi : (iW i).toNat = i.toNat := by rw [iW, BitVec.toNat_ofNat]; exact Nat.mod_eq_of_lt (by omega)
 have h2 : (BitVec.ofNat 64 most : W64).toNat = most := by rw [BitVec.toNat_ofNat]; exact Nat.mod_eq_of_lt hm
 unfold rdN
 rw [uintS_put (by rw [hi, h2]; omega), hi]
 simp only [Int.toNat_of_nonneg h0]
theorem Vo.pz {o : COp} (h : Vo o) (hk : o.k ≠ 2) : o.p = Go.Lx.pz := Classical.byContradiction fun hn => by
 have h1 := h.chk; have hr := h.rng
 unfold checkO at h1
 rw [if_neg (by omega), if_pos (.inl ⟨hk, hn⟩)] at h1; omega
theorem rdN_dec (s : RSt) (most : Nat) : (rdN s most).1.1.length ≤ s.1.length := uintS_dec _ _
theorem rdN_rng (s : RSt) (most : Nat) (hm : most < 2 ^ 64) : 0 ≤ (rdN s most).2 ∧ (rdN s most).2 ≤ most := by
 have h := uintS_le s (BitVec.ofNat 64 most)
 have h2 : (BitVec.ofNat 64 most : W64).toNat = most := by rw [BitVec.toNat_ofNat]; exact Nat.mod_eq_of_lt hm
 rw [h2] at h
 exact ⟨Int.natCast_nonneg _, by show ((uintS s (BitVec.ofNat 64 most)).2.toNat : Int) ≤ _; omega⟩
