/- Several texts in one file. -/
import Derived.Test.YtdnkjdmfnmdpdaaGreatDoorDraw
import Derived.Laws.StructEq
import Derived.Test.YtdnkjdmfnmdpdaaGreatDoorPure11
import Derived.Sort.Statements
set_option linter.unusedSimpArgs false
set_option linter.unusedVariables false
set_option linter.unnecessarySimpa false
/- Equality of structs, told by an encoding. Nothing of a program stands here. -/
namespace Go.Lx
open Go
structure EqT {α : Type} [BEq α] (P : Program) (T : TypeId) (enc : α → List Value) : Prop where
 gd : P.eqGuardType P.depth T = false
 run : ∀ (w : World) x y, (Op.equalIn 10000 T (.agg (enc x).toArray) (.agg (enc y).toArray)).run P w = .ok (x == y) w
section
variable {P : Program} {d : Nat} {xs ys : Array Value} {f : Field} {fs : List Field} {v u : Value} {r r' : Bool}
theorem eqF_nil : ∀ w, (Op.eqFields d xs ys []).run P w = .ok true w := fun _ => rfl
theorem eqF_cons (hn : f.name ≠ "_") (ha : ∀ w, (isAgg f.type).run P w = .ok false w) (hx : xs[f.offset]? = some v) (hy : ys[f.offset]? = some u) (he : ∀ w, (Op.equalIn d f.type v u).run P w = .ok r w) (hr : ∀ w, (Op.eqFields d xs ys fs).run P w = .ok r' w) :
  ∀ w, (Op.eqFields d xs ys (f :: fs)).run P w = .ok (r && r') w := by
 intro w
 simp only [Op.eqFields, hn, ne_eq, not_false_eq_true, if_true, Sem.run_bind, part, ha, Result.andThen_ok, Bool.false_eq_true, if_false, hx, hy, Sem.run_pure, he]
 cases r
 ·simp
 ·simp [hr]
theorem eqI_str {T : TypeId} (l m : List UInt8) (h : P.underlying T = some .string) : ∀ w, (Op.equalIn (d + 1) T (str l) (str m)).run P w = .ok (l == m) w := by
 intro w
 have := run_equalIn_string (P := P) w d T ⟨l.toArray⟩ ⟨m.toArray⟩ h
 rw [toList_mk, toList_mk] at this
 exact this
end
section
variable {α : Type} [BEq α] {enc : α → List Value} {P : Program} {fr : Fr} {w : World} {d : Option Nat} {t : TypeId} {ps : String} {af : Array Edge} {g : Option (Nat × Bool)} {x y : Operand} {T U : TypeId} {a b : α}
theorem o_teql (h : EqT P T enc) (hx : ev fr x = .agg (enc a).toArray) (hy : ev fr y = .agg (enc b).toArray) : xop P fr w ⟨d, .binOp .eql T x y U, t, ps, af, g⟩ = .ok (.value (.bool (a == b))) w := by
 simp only [xop, execOp, hx, hy, Sem.run_bind, run_eqGuard_agg w .eql T x y _ _ h.gd, Result.andThen_ok, run_eql_struct, h.run]
 rfl
theorem o_tneq (h : EqT P T enc) (hx : ev fr x = .agg (enc a).toArray) (hy : ev fr y = .agg (enc b).toArray) : xop P fr w ⟨d, .binOp .neq T x y U, t, ps, af, g⟩ = .ok (.value (.bool (!(a == b)))) w := by
 simp only [xop, execOp, hx, hy, Sem.run_bind, run_eqGuard_agg w .neq T x y _ _ h.gd, Result.andThen_ok, run_neq_struct, h.run]
 rfl
end
end Go.Lx
/- Orders: of texts, of paths, of permissions. Nothing of a program stands here. -/
namespace Go.Lx
open Go
structure IsCmp {α : Type} (f : α → α → Int) : Prop where
 eq : ∀ a b, f a b = 0 ↔ a = b
 anti : ∀ a b, f b a = -f a b
 tr : ∀ a b c, f a b < 0 → f b c < 0 → f a c < 0
theorem bl_irrefl : ∀ (a : Str), Op.bytesLess a a = false
 | [] => rfl
 | c :: r => by simp [Op.bytesLess, bl_irrefl r]
theorem bl_trans : ∀ (a b c : Str), Op.bytesLess a b = true → Op.bytesLess b c = true → Op.bytesLess a c = true
 | a, b, [], _, h => by cases b <;> simp [Op.bytesLess] at h
 | [], [], c :: z, h, _ => by simp [Op.bytesLess] at h
 | [], _ :: _, c :: z, _, _ => by simp [Op.bytesLess]
 | a :: x, [], c :: z, h, _ => by simp [Op.bytesLess] at h
 | a :: x, b :: y, c :: z, h1, h2 => by
  simp only [Op.bytesLess, Bool.or_eq_true, decide_eq_true_eq, Bool.and_eq_true, beq_iff_eq] at h1 h2 ⊢
  rcases h1 with h1 | ⟨rfl, h1⟩
  ·rcases h2 with h2 | ⟨rfl, h2⟩
   ·exact .inl (UInt8.lt_trans h1 h2)
   ·exact .inl h1
  ·rcases h2 with h2 | ⟨rfl, h2⟩
   ·exact .inl h2
   ·exact .inr ⟨rfl, bl_trans x y z h1 h2⟩
theorem bl_total : ∀ (a b : Str), Op.bytesLess a b = true ∨ a = b ∨ Op.bytesLess b a = true
 | [], [] => .inr (.inl rfl)
 | [], _ :: _ => .inl rfl
 | _ :: _, [] => .inr (.inr rfl)
 | a :: x, b :: y => by
  simp only [Op.bytesLess, Bool.or_eq_true, decide_eq_true_eq, Bool.and_eq_true, beq_iff_eq, List.cons.injEq]
  rcases Nat.lt_trichotomy a.toNat b.toNat with h | h | h
  ·exact .inl (.inl (UInt8.lt_iff_toNat_lt.2 h))
  ·have hab : a = b := UInt8.toNat_inj.1 h
   subst hab
   rcases bl_total x y with h | rfl | h
   ·exact .inl (.inr ⟨rfl, h⟩)
   ·exact .inr (.inl ⟨rfl, rfl⟩)
   ·exact .inr (.inr (.inr ⟨rfl, h⟩))
  ·exact .inr (.inr (.inl (UInt8.lt_iff_toNat_lt.2 h)))
theorem bl_asymm {a b : Str} (h : Op.bytesLess a b = true) : Op.bytesLess b a = false := by
 cases hb : Op.bytesLess b a with
 | false => rfl
 | true => have := bl_trans _ _ _ h hb; rw [bl_irrefl] at this; cases this
theorem cmpS_cases (a b : Str) : (cmpS a b = -1 ∧ Op.bytesLess a b = true) ∨ (cmpS a b = 0 ∧ a = b) ∨ (cmpS a b = 1 ∧ Op.bytesLess b a = true) := by
 rcases bl_total a b with h | rfl | h
 ·left; simp [cmpS, h]
 ·right; left; simp [cmpS, bl_irrefl]
 ·right; right
  have h2 := bl_asymm h
  have h3 : (a == b) = false := by
   cases hx : (a == b) with
   | false => rfl
   | true =>
    have : a = b := by simpa using hx
    subst this; rw [bl_irrefl] at h; cases h
  simp [cmpS, h2, h3, h]
theorem cmpS_is : IsCmp cmpS where
 eq a b := by
  constructor
  ·intro h
   rcases cmpS_cases a b with ⟨h1, _⟩ | ⟨_, h2⟩ | ⟨h1, _⟩
   ·omega
   ·exact h2
   ·omega
  ·rintro rfl; simp [cmpS, bl_irrefl]
 anti a b := by
  rcases cmpS_cases a b with ⟨h1, h⟩ | ⟨h1, rfl⟩ | ⟨h1, h⟩
  ·rcases cmpS_cases b a with ⟨_, k⟩ | ⟨_, rfl⟩ | ⟨k1, _⟩
   ·rw [bl_asymm h] at k; cases k
   ·rw [bl_irrefl] at h; cases h
   ·omega
  ·omega
  ·rcases cmpS_cases b a with ⟨k1, k⟩ | ⟨_, rfl⟩ | ⟨k1, k⟩
   ·omega
   ·rw [bl_irrefl] at h; cases h
   ·rw [bl_asymm h] at k; cases k
 tr a b c h1 h2 := by
  rcases cmpS_cases a b with ⟨_, h⟩ | ⟨h, _⟩ | ⟨h, _⟩ <;> try omega
  rcases cmpS_cases b c with ⟨_, k⟩ | ⟨k, _⟩ | ⟨k, _⟩ <;> try omega
  rcases cmpS_cases a c with ⟨m, _⟩ | ⟨_, rfl⟩ | ⟨_, m⟩
  ·omega
  ·rw [bl_asymm h] at k; cases k
  ·have := bl_trans _ _ _ h k
   rw [bl_asymm m] at this; cases this
def lex {α β : Type} (f : α → α → Int) (g : β → β → Int) (x y : α × β) : Int := if f x.1 y.1 != 0 then f x.1 y.1 else g x.2 y.2
theorem lex_is {α β : Type} {f : α → α → Int} {g : β → β → Int} (hf : IsCmp f) (hg : IsCmp g) : IsCmp (lex f g) where
 eq x y := by
  obtain ⟨a, b⟩ := x; obtain ⟨c, d⟩ := y
  simp only [lex, Prod.mk.injEq]
  by_cases h : f a c = 0
  ·simp only [h, bne_self_eq_false, Bool.false_eq_true, if_false]
   rw [hg.eq, ← hf.eq a c]; exact ⟨fun k => ⟨h, k⟩, fun k => k.2⟩
  ·have hb : (f a c != 0) = true := by simp [h]
   rw [if_pos hb]
   exact ⟨fun k => absurd k h, fun k => absurd ((hf.eq a c).2 k.1) h⟩
 anti x y := by
  obtain ⟨a, b⟩ := x; obtain ⟨c, d⟩ := y
  simp only [lex]
  have h1 := hf.anti a c
  by_cases h : f a c = 0
  ·have h2 : f c a = 0 := by omega
   simp only [h, h2, bne_self_eq_false, Bool.false_eq_true, if_false]; exact hg.anti b d
  ·have hb : (f a c != 0) = true := by simp [h]
   have hc : (f c a != 0) = true := by simp; omega
   rw [if_pos hb, if_pos hc]; exact h1
 tr x y z := by
  obtain ⟨a, b⟩ := x; obtain ⟨c, d⟩ := y; obtain ⟨e, k⟩ := z
  simp only [lex]
  intro h1 h2
  by_cases p : f a c = 0
  ·have hac := (hf.eq a c).1 p
   subst hac
   simp only [p, bne_self_eq_false, Bool.false_eq_true, if_false] at h1
   by_cases q : f a e = 0
   ·simp only [q, bne_self_eq_false, Bool.false_eq_true, if_false] at h2 ⊢; exact hg.tr _ _ _ h1 h2
   ·have hb : (f a e != 0) = true := by simp [q]
    rw [if_pos hb] at h2 ⊢; exact h2
  ·have hb : (f a c != 0) = true := by simp [p]
   rw [if_pos hb] at h1
   by_cases q : f c e = 0
   ·have hce := (hf.eq c e).1 q
    subst hce
    rw [if_pos hb]; exact h1
   ·have hb2 : (f c e != 0) = true := by simp [q]
    rw [if_pos hb2] at h2
    have := hf.tr _ _ _ h1 h2
    have hb3 : (f a e != 0) = true := by simp; omega
    rw [if_pos hb3]; exact this
theorem cmpL_is : IsCmp cmpL := by
 have he : ∀ a b, cmpL a b = 0 ↔ a = b := by
  intro a
  induction a with
  | nil => intro b; cases b <;> simp [cmpL]
  | cons x a ih =>
   intro b
   cases b with
   | nil => simp [cmpL]
   | cons y b =>
    simp only [cmpL, List.cons.injEq]
    by_cases h : cmpS x y = 0
    ·simp only [h, bne_self_eq_false, Bool.false_eq_true, if_false]; rw [ih, ← cmpS_is.eq x y]; exact ⟨fun k => ⟨h, k⟩, fun k => k.2⟩
    ·have hb : (cmpS x y != 0) = true := by simp [h]
     rw [if_pos hb]; exact ⟨fun k => absurd k h, fun k => absurd ((cmpS_is.eq x y).2 k.1) h⟩
 have ha : ∀ a b, cmpL b a = -cmpL a b := by
  intro a
  induction a with
  | nil => intro b; cases b <;> simp [cmpL]
  | cons x a ih =>
   intro b
   cases b with
   | nil => simp [cmpL]
   | cons y b =>
    simp only [cmpL]
    have h1 := cmpS_is.anti x y
    by_cases h : cmpS x y = 0
    ·have h2 : cmpS y x = 0 := by omega
     simp only [h, h2, bne_self_eq_false, Bool.false_eq_true, if_false]; exact ih b
    ·have hb : (cmpS x y != 0) = true := by simp [h]
     have hc : (cmpS y x != 0) = true := by simp; omega
     rw [if_pos hb, if_pos hc]; exact h1
 refine ⟨he, ha, ?_⟩
 intro a
 induction a with
 | nil => intro b c h1 h2; cases c with
  | nil => cases b <;> simp [cmpL] at h1 h2
  | cons z c => simp [cmpL]
 | cons x a ih =>
  intro b c h1 h2
  cases b with
  | nil => simp [cmpL] at h1
  | cons y b =>
   cases c with
   | nil => simp [cmpL] at h2
   | cons z c =>
    simp only [cmpL] at h1 h2 ⊢
    by_cases p : cmpS x y = 0
    ·have := (cmpS_is.eq x y).1 p
     subst this
     simp only [p, bne_self_eq_false, Bool.false_eq_true, if_false] at h1
     by_cases q : cmpS x z = 0
     ·simp only [q, bne_self_eq_false, Bool.false_eq_true, if_false] at h2 ⊢; exact ih _ _ h1 h2
     ·have hb : (cmpS x z != 0) = true := by simp [q]
      rw [if_pos hb] at h2 ⊢; exact h2
    ·have hb : (cmpS x y != 0) = true := by simp [p]
     rw [if_pos hb] at h1
     by_cases q : cmpS y z = 0
     ·have := (cmpS_is.eq y z).1 q
      subst this
      rw [if_pos hb]; exact h1
     ·have hb2 : (cmpS y z != 0) = true := by simp [q]
      rw [if_pos hb2] at h2
      have := cmpS_is.tr _ _ _ h1 h2
      have hb3 : (cmpS x z != 0) = true := by simp; omega
      rw [if_pos hb3]; exact this
def cmpB (a b : Bool) : Int := if a == b then 0 else if b then -1 else 1
theorem cmpB_is : IsCmp cmpB := ⟨by decide, by decide, by decide⟩
theorem join_splitS : ∀ (l : Str), Lib.join (splitS l) [47] = l
 | [] => rfl
 | c :: r => by
  have ih := join_splitS r
  have hne := splitS_ne r
  by_cases hc : c = 47
  ·subst hc
   simp only [splitS, beq_self_eq_true, if_true]
   cases hs : splitS r with
   | nil => exact absurd hs hne
   | cons a t =>
    rw [hs] at ih
    show [47].intercalate ([] :: a :: t) = _
    rw [List.intercalate_cons_cons]
    show [] ++ [47] ++ Lib.join (a :: t) [47] = _
    rw [ih]; rfl
  ·have hb : (c == 47) = false := by simp [hc]
   simp only [splitS, hb, Bool.false_eq_true, if_false]
   cases hs : splitS r with
   | nil => exact absurd hs hne
   | cons a t =>
    rw [hs] at ih
    cases t with
    | nil =>
     have h1 : Lib.join [a] [47] = a := Lib.join_one a [47]
     rw [h1] at ih
     show Lib.join [c :: a] [47] = _
     rw [Lib.join_one, ih]
    | cons b t =>
     have e1 : Lib.join (a :: b :: t) [47] = a ++ [47] ++ Lib.join (b :: t) [47] := List.intercalate_cons_cons
     have e2 : Lib.join ((c :: a) :: b :: t) [47] = (c :: a) ++ [47] ++ Lib.join (b :: t) [47] := List.intercalate_cons_cons
     show Lib.join ((c :: a) :: b :: t) [47] = _
     rw [e2]; rw [e1] at ih
     rw [List.cons_append, List.cons_append, ih]
theorem join_split {p : Str} {l : List Str} (h : splitP p = some l) : joinP l = p := by
 unfold splitP at h
 split at h
 ·rename_i h1
  simp at h h1
  subst h h1; rfl
 ·split at h
  ·cases h
  ·rename_i h1 h2
   split at h
   ·cases h
   ·split at h
    ·simp only [Option.some.injEq] at h
     subst h
     have h3 : hasPre p [47] = true := by simpa using h2
     simp only [hasPre, Bool.and_eq_true, beq_iff_eq] at h3
     cases p with
     | nil => simp at h3
     | cons c r =>
      have : c = 47 := by simpa using h3.2
      subst this
      show 47 :: Lib.join (splitS r) [47] = _
      rw [join_splitS]
    ·cases h
theorem split_inj {p q : Str} (hp : splitOk p = true) (hq : splitOk q = true) (h : splitL p = splitL q) : p = q := by
 unfold splitOk at hp hq
 obtain ⟨l, hl⟩ := Option.isSome_iff_exists.1 hp
 obtain ⟨m, hm⟩ := Option.isSome_iff_exists.1 hq
 rw [splitL_some hl, splitL_some hm] at h
 subst h
 rw [← join_split hl, ← join_split hm]
def Vp (x : Perm) : Prop := x.ok ∧ checkS x = 0
theorem Vp.path {x : Perm} (h : Vp x) : splitOk x.path = true := by
 have := h.2
 unfold checkS at this
 cases hn : nmS x.act <;> cases hs : splitOk x.path <;> simp [hn, hs] at this ⊢
theorem IsCmp.map {α β : Type} {f : β → β → Int} (h : IsCmp f) (m : α → β) (hm : ∀ a b, m a = m b → a = b) : IsCmp fun a b => f (m a) (m b) :=
 ⟨fun a b => ⟨fun e => hm a b ((h.eq _ _).1 e), fun e => (h.eq _ _).2 (by rw [e])⟩, fun a b => h.anti _ _, fun a b c => h.tr _ _ _⟩
def keyP (x : Perm) : Str × List Str × Bool := (x.act, splitL x.path, x.deep)
theorem cmpM_lex {x y : Perm} (hx : Vp x) (hy : Vp y) : cmpM x y = lex cmpS (lex cmpL cmpB) (keyP x) (keyP y) := by
 have h1 := hx.path
 have h2 := hy.path
 simp only [cmpM, lex, keyP, cmpP, h1, h2, Bool.not_true, Bool.or_self, Bool.false_eq_true, if_false, Bool.and_self, if_true]
 by_cases hc : cmpS x.act y.act = 0
 ·by_cases h : cmpL (splitL x.path) (splitL y.path) = 0
  ·by_cases hd : x.deep = y.deep
   ·simp [hc, h, hd, cmpB]
   ·simp [hc, h, hd, cmpB]
  ·simp [hc, h]
 ·simp [hc]
theorem keyP_inj {x y : Perm} (hx : Vp x) (hy : Vp y) (h : keyP x = keyP y) : x = y := by
 obtain ⟨a, p, d⟩ := x; obtain ⟨a', p', d'⟩ := y
 simp only [keyP, Prod.mk.injEq] at h
 obtain ⟨rfl, h2, rfl⟩ := h
 have := split_inj hx.path hy.path h2
 simp at this; subst this; rfl
abbrev VP := { x : Perm // Vp x }
theorem cmpV_is : IsCmp fun a b : VP => cmpM a.1 b.1 := by
 have h := (lex_is cmpS_is (lex_is cmpL_is cmpB_is)).map (fun a : VP => keyP a.1) (fun a b e => Subtype.ext (keyP_inj a.2 b.2 e))
 have e : (fun a b : VP => cmpM a.1 b.1) = fun a b : VP => lex cmpS (lex cmpL cmpB) (keyP a.1) (keyP b.1) := by
  funext a b; exact cmpM_lex a.2 b.2
 rw [e]; exact h
instance : Inhabited VP := ⟨⟨⟨[114, 101, 97, 100], [47], false⟩, ⟨by decide, by decide⟩, by decide⟩⟩
end Go.Lx
/- Normal lists: insertion without doubles is sorting and compacting. Nothing of a program stands here. -/
namespace Go.Lx
open Go
def insGo {α : Type} (f : α → α → Int) (p : α) : List α → List α
 | [] => [p]
 | x :: r => if f p x < 0 then p :: x :: r else x :: insGo f p r
def insG {α : Type} [BEq α] (f : α → α → Int) (l : List α) (p : α) : List α := if l.any (fun x => x == p) then l else insGo f p l
def insAll {α : Type} [BEq α] (f : α → α → Int) (l : List α) : List α := l.foldl (insG f) []
section
variable {α : Type} {f : α → α → Int}
theorem IsCmp.irr (h : IsCmp f) (a : α) : f a a = 0 := (h.eq a a).2 rfl
theorem insGo_mem {p x : α} : ∀ {l : List α}, x ∈ insGo f p l ↔ x = p ∨ x ∈ l
 | [] => by simp [insGo]
 | y :: r => by
  unfold insGo
  split
  ·simp
  ·simp only [List.mem_cons, insGo_mem (l := r)]
   constructor
   ·rintro (h | h | h)
    ·exact .inr (.inl h)
    ·exact .inl h
    ·exact .inr (.inr h)
   ·rintro (h | h | h)
    ·exact .inr (.inl h)
    ·exact .inl h
    ·exact .inr (.inr h)
theorem insGo_pw (h : IsCmp f) {p : α} : ∀ {l : List α}, p ∉ l → l.Pairwise (fun x y => f x y < 0) → (insGo f p l).Pairwise (fun x y => f x y < 0)
 | [], _, _ => by simp [insGo]
 | y :: r, hp, hl => by
  unfold insGo
  rw [List.pairwise_cons] at hl
  split
  ·rename_i hlt
   refine List.pairwise_cons.2 ⟨?_, List.pairwise_cons.2 hl⟩
   intro z hz
   rcases List.mem_cons.1 hz with rfl | hz
   ·exact hlt
   ·exact h.tr _ _ _ hlt (hl.1 z hz)
  ·rename_i hlt
   refine List.pairwise_cons.2 ⟨?_, insGo_pw h (fun hm => hp (List.mem_cons_of_mem _ hm)) hl.2⟩
   intro z hz
   rcases insGo_mem.1 hz with rfl | hz
   ·have h1 : z ≠ y := fun e => hp (e ▸ List.mem_cons_self ..)
    have h2 : f z y ≠ 0 := fun e => h1 ((h.eq _ _).1 e)
    have := h.anti z y
    omega
   ·exact hl.1 z hz
variable [BEq α] [LawfulBEq α]
theorem insG_mem {l : List α} {p x : α} : x ∈ insG f l p ↔ x = p ∨ x ∈ l := by
 unfold insG
 split
 ·rename_i h
  obtain ⟨y, hy, he⟩ := List.any_eq_true.1 h
  have := eq_of_beq he
  subst this
  exact ⟨.inr, fun h => h.elim (fun e => e ▸ hy) id⟩
 ·exact insGo_mem
theorem insG_pw (h : IsCmp f) {l : List α} {p : α} (hl : l.Pairwise (fun x y => f x y < 0)) : (insG f l p).Pairwise (fun x y => f x y < 0) := by
 unfold insG
 split
 ·exact hl
 ·rename_i hn
  refine insGo_pw h (fun hm => hn ?_) hl
  rw [List.any_eq_true]; exact ⟨p, hm, by simp⟩
theorem insFold (h : IsCmp f) : ∀ (l acc : List α), acc.Pairwise (fun x y => f x y < 0) → (l.foldl (insG f) acc).Pairwise (fun x y => f x y < 0) ∧ ∀ x, x ∈ l.foldl (insG f) acc ↔ x ∈ acc ∨ x ∈ l
 | [], acc, ha => ⟨ha, by simp⟩
 | p :: r, acc, ha => by
  obtain ⟨h1, h2⟩ := insFold h r (insG f acc p) (insG_pw h ha)
  refine ⟨h1, fun x => ?_⟩
  rw [List.foldl_cons, h2, insG_mem, List.mem_cons]
  constructor
  ·rintro ((h | h) | h)
   ·exact .inr (.inl h)
   ·exact .inl h
   ·exact .inr (.inr h)
  ·rintro (h | h | h)
   ·exact .inl (.inr h)
   ·exact .inl (.inl h)
   ·exact .inr h
theorem insAll_pw (h : IsCmp f) (l : List α) : (insAll f l).Pairwise (fun x y => f x y < 0) := (insFold h l [] List.Pairwise.nil).1
theorem insAll_mem (h : IsCmp f) (l : List α) (x : α) : x ∈ insAll f l ↔ x ∈ l := by
 have := (insFold h l [] List.Pairwise.nil).2 x
 show x ∈ List.foldl (insG f) [] l ↔ _
 simpa using this
omit [BEq α] [LawfulBEq α] in
theorem pw_unique (h : IsCmp f) {a b : List α} (ha : a.Pairwise (fun x y => f x y < 0)) (hb : b.Pairwise (fun x y => f x y < 0)) (hm : ∀ x, x ∈ a ↔ x ∈ b) : a = b := by
 have hne : ∀ {x y : α}, f x y < 0 → x ≠ y := fun hxy e => by subst e; rw [h.irr] at hxy; omega
 have na : a.Nodup := ha.imp hne
 have nb : b.Nodup := hb.imp hne
 have hp : a.Perm b := (List.perm_ext_iff_of_nodup na nb).2 hm
 refine List.Perm.eq_of_pairwise (le := fun x y => f x y < 0) ?_ ha hb hp
 intro x y _ _ h1 h2
 have := h.anti x y
 omega
theorem compStep_mem {acc : List α} {x y : α} : y ∈ compStep acc x ↔ y ∈ acc ∨ y = x := by
 unfold compStep
 split
 ·rename_i h
  have h1 := eq_of_beq h
  have h2 : x ∈ acc := List.mem_of_getLast? h1
  exact ⟨.inl, fun h => h.elim id (fun e => e ▸ h2)⟩
 ·simp
theorem comp_pw (h : IsCmp f) : ∀ (l : List α), l.Pairwise (fun x y => f x y ≤ 0) → (compL l).Pairwise (fun x y => f x y < 0) ∧ ∀ x, x ∈ compL l ↔ x ∈ l := by
 intro l
 induction hn : l.length generalizing l with
 | zero =>
  have : l = [] := List.eq_nil_of_length_eq_zero hn
  subst this
  intro _; exact ⟨List.Pairwise.nil, by simp [compL]⟩
 | succ n ih' =>
  obtain ⟨m, x, rfl⟩ : ∃ m x, l = m ++ [x] := by
   rcases List.eq_nil_or_concat l with rfl | ⟨m, x, h⟩
   ·simp at hn
   ·exact ⟨m, x, by rw [h, List.concat_eq_append]⟩
  have ih := ih' m (by simpa using hn)
  clear ih' hn
  intro hl
  rw [List.pairwise_append] at hl
  obtain ⟨h1, h2⟩ := ih hl.1
  rw [comp_snoc]
  refine ⟨?_, fun y => by rw [compStep_mem, h2]; simp⟩
  unfold compStep
  split
  ·exact h1
  ·rename_i hn
   rw [List.pairwise_append]
   refine ⟨h1, by simp, ?_⟩
   intro y hy z hz
   have : z = x := by simpa using hz
   subst this
   have hle := hl.2.2 y ((h2 y).1 hy) z (by simp)
   rcases Int.lt_or_eq_of_le hle with h3 | h3
   ·exact h3
   ·exfalso
    have e := (h.eq _ _).1 h3
    subst e
    -- y is in the strictly ascending list, and is at least its last element
    apply hn
    obtain ⟨i, hi, hiy⟩ := List.mem_iff_getElem.1 hy
    have hlast : i = (compL m).length - 1 := by
     rcases Nat.lt_or_ge i ((compL m).length - 1) with hlt | hge
     ·exfalso
      have hp := List.pairwise_iff_getElem.1 h1 i ((compL m).length - 1) hi (by omega) hlt
      have hmem : (compL m)[(compL m).length - 1] ∈ m := (h2 _).1 (List.getElem_mem _)
      have := hl.2.2 _ hmem y (by simp)
      rw [hiy] at hp
      have := h.anti y ((compL m)[(compL m).length - 1])
      omega
     ·omega
    subst hlast
    rw [List.getLast?_eq_getElem?, List.getElem?_eq_getElem hi, hiy]
    simp
theorem comp_ins (h : IsCmp f) {l l' : List α} (hp : ∀ x, x ∈ l' ↔ x ∈ l) (hs : l'.Pairwise (fun x y => f x y ≤ 0)) : compL l' = insAll f l := by
 obtain ⟨h1, h2⟩ := comp_pw h l' hs
 refine pw_unique h h1 (insAll_pw h l) fun x => ?_
 rw [h2, insAll_mem h, hp]
end
section
variable {α β : Type} {f : β → β → Int} {m : α → β}
theorem insGo_map (p : α) : ∀ (l : List α), insGo f (m p) (l.map m) = (insGo (fun a b => f (m a) (m b)) p l).map m
 | [] => rfl
 | x :: r => by
  simp only [List.map_cons, insGo]
  split
  ·rfl
  ·rw [insGo_map p r]; rfl
variable [BEq α] [LawfulBEq α] [BEq β] [LawfulBEq β]
theorem beq_map (hm : ∀ a b, m a = m b → a = b) (a b : α) : (m a == m b) = (a == b) := by
 rw [Bool.eq_iff_iff, beq_iff_eq, beq_iff_eq]
 exact ⟨hm a b, fun e => e ▸ rfl⟩
theorem insG_map (hm : ∀ a b, m a = m b → a = b) (l : List α) (p : α) : insG f (l.map m) (m p) = (insG (fun a b => f (m a) (m b)) l p).map m := by
 unfold insG
 have e : (l.map m).any (fun x => x == m p) = l.any (fun x => x == p) := by
  rw [List.any_map]; congr 1; funext x; exact beq_map hm x p
 rw [e, insGo_map]
 split <;> rfl
theorem insFold_map (hm : ∀ a b, m a = m b → a = b) : ∀ (l acc : List α), (l.map m).foldl (insG f) (acc.map m) = (l.foldl (insG fun a b => f (m a) (m b)) acc).map m
 | [], _ => rfl
 | x :: r, acc => by rw [List.map_cons, List.foldl_cons, insG_map hm, insFold_map hm r]; rfl
theorem compFold_map (hm : ∀ a b, m a = m b → a = b) : ∀ (l acc : List α), (l.map m).foldl compStep (acc.map m) = (l.foldl compStep acc).map m
 | [], _ => rfl
 | x :: r, acc => by
  have e : compStep (acc.map m) (m x) = (compStep acc x).map m := by
   unfold compStep
   rw [List.getLast?_map]
   have : ((acc.getLast?.map m) == some (m x)) = (acc.getLast? == some x) := by
    cases acc.getLast? with
    | none => rfl
    | some y => exact beq_map hm y x
   rw [this]
   split <;> simp
  rw [List.map_cons, List.foldl_cons, e, compFold_map hm r]; rfl
end
def keepS (l : List Perm) (p : Perm) : Bool := checkS p == 0 && !(l.any fun q => !(q == p) && impliesS q p)
end Go.Lx
/- What the walks ask of this program's types of permissions. -/
namespace Go.Proofs.YtdnkjdmfnmdpdaaGreatDoor
open Go Go.Lx
set_option maxRecDepth 10000
theorem permBeq (x y : Perm) : (x == y) = ((x.act == y.act) && (x.path == y.path) && (x.deep == y.deep)) := by
 obtain ⟨a, b, c⟩ := x
 obtain ⟨a', b', c'⟩ := y
 rw [Bool.eq_iff_iff]
 simp only [Bool.and_eq_true, beq_iff_eq, Perm.mk.injEq, and_assoc]
end Go.Proofs.YtdnkjdmfnmdpdaaGreatDoor
/- The plain functions of the reference of permissions. Nothing of a program stands here. -/
namespace Go.Lx
open Go
def preH (n : Str) : List Str → List Str
 | [] => [n]
 | h :: t => (n ++ h) :: t
theorem preH_nil (l : Str) : preH [] (splitS l) = splitS l := by
 cases h : splitS l with
 | nil => exact absurd h (splitS_ne l)
 | cons a t => rfl
theorem drop_c {p : Str} {k : Nat} (hk : k < p.length) : p.drop k = p.getD k 0 :: p.drop (k + 1) := by
 rw [List.drop_eq_getElem_cons hk, getD_of hk]
theorem sp_char {p name : Str} {k : Nat} (hk : k < p.length) (hc : (p.getD k 0 == 47) = false) : preH name (splitS (p.drop k)) = preH (name ++ [p.getD k 0]) (splitS (p.drop (k + 1))) := by
 rw [drop_c hk, splitS, if_neg (by rw [hc]; decide)]
 cases h : splitS (p.drop (k + 1)) with
 | nil => exact absurd h (splitS_ne _)
 | cons a t => simp [preH]
theorem sp_sep {p name : Str} {k : Nat} (hk : k < p.length) (hc : (p.getD k 0 == 47) = true) : preH name (splitS (p.drop k)) = name :: splitS (p.drop (k + 1)) := by
 rw [drop_c hk, splitS, if_pos hc]
 simp [preH]
theorem sp_end {p name : Str} {k : Nat} (hk : p.length ≤ k) : preH name (splitS (p.drop k)) = [name] := by
 rw [List.drop_of_length_le hk]; simp [splitS, preH]
theorem b_u8 (c d : UInt8) : ((c.toNat : Int) == (d.toNat : Int)) = (c == d) := by
 rw [Bool.eq_iff_iff, beq_iff_eq, beq_iff_eq]
 constructor
 ·intro h; exact UInt8.toNat_inj.1 (by omega)
 ·intro h; rw [h]
theorem b47 (c : UInt8) : ((c.toNat : Int) == 47) = (c == 47) := b_u8 c 47
def SpAt (p : Str) (out : List Str) (name : Str) (k : Nat) : Prop :=
 1 ≤ k ∧ k ≤ p.length + 1 ∧ out.length ≤ k ∧ name.length ≤ k ∧ out.all namedS = true ∧ (if k ≤ p.length then splitS (p.drop 1) = out ++ preH name (splitS (p.drop k)) else splitS (p.drop 1) = out)
theorem SpAt.start {p : Str} (h : 1 ≤ p.length) : SpAt p [] [] 1 := ⟨by omega, by omega, by simp, by simp, rfl, by rw [if_pos h, preH_nil]; rfl⟩
theorem SpAt.char {p name : Str} {out : List Str} {k : Nat} (h : SpAt p out name k) (hk : (decide ((k : Int) < p.length) && !(((p.getD k 0).toNat : Int) == 47)) = true) : k < p.length ∧ SpAt p out (name ++ [p.getD k 0]) (k + 1) := by
 simp only [Bool.and_eq_true, decide_eq_true_eq, b47] at hk
 have hlt : k < p.length := by omega
 obtain ⟨h1, h2, h3, h4, h5, h6⟩ := h
 rw [if_pos (by omega)] at h6
 refine ⟨hlt, by omega, by omega, by omega, by simp; omega, h5, ?_⟩
 rw [if_pos (by omega), h6, sp_char hlt (by simpa using hk.2)]
theorem SpAt.sep {p name : Str} {out : List Str} {k : Nat} (h : SpAt p out name k) (hl : k ≤ p.length) (hk : (decide ((k : Int) < p.length) && !(((p.getD k 0).toNat : Int) == 47)) = false) (hn : namedS name = true) : SpAt p (out ++ [name]) [] (k + 1) := by
 obtain ⟨h1, h2, h3, h4, h5, h6⟩ := h
 rw [if_pos hl] at h6
 refine ⟨by omega, by omega, by simp; omega, by simp, by simp [h5, hn], ?_⟩
 by_cases hlt : k < p.length
 ·rw [if_pos (by omega), h6, sp_sep hlt, preH_nil, List.append_assoc]; rfl
  simp only [b47] at hk
  have : decide ((k : Int) < p.length) = true := by simp; omega
  rw [this] at hk
  simpa using hk
 ·rw [if_neg (by omega), h6, sp_end (by omega)]
theorem SpAt.bad {p name : Str} {out : List Str} {k : Nat} (h : SpAt p out name k) (hr : (p == [47]) = false) (hl : k ≤ p.length) (hk : (decide ((k : Int) < p.length) && !(((p.getD k 0).toNat : Int) == 47)) = false) (hn : namedS name = false) : splitOk p = false := by
 obtain ⟨h1, h2, h3, h4, h5, h6⟩ := h
 rw [if_pos hl] at h6
 have hmem : name ∈ splitS (p.drop 1) := by
  rw [h6]
  by_cases hlt : k < p.length
  ·rw [sp_sep hlt]
   ·simp
   ·simp only [b47] at hk
    have : decide ((k : Int) < p.length) = true := by simp; omega
    rw [this] at hk
    simpa using hk
  ·rw [sp_end (by omega)]; simp
 have hall : (splitS (p.drop 1)).all namedS = false := by
  rw [List.all_eq_false]; exact ⟨name, hmem, by simp [hn]⟩
 unfold splitOk splitP
 rw [if_neg (by simp [hr])]
 split
 ·rfl
 ·split
  ·rfl
  ·rw [hall]; rfl
theorem SpAt.fin {p name : Str} {out : List Str} {k : Nat} (h : SpAt p out name k) (hr : (p == [47]) = false) (hp : hasPre p [47] = true) (hl : ¬ (k : Int) ≤ p.length) : decide ((out.length : Int) ≤ 8) = splitOk p ∧ (splitOk p = true → out = splitL p) := by
 obtain ⟨h1, h2, h3, h4, h5, h6⟩ := h
 rw [if_neg (by omega)] at h6
 by_cases h8 : (8 : Int) < out.length
 ·have e : splitP p = none := by
   rw [splitP, if_neg (by simp [hr]), if_neg (by simp [hp]), h6, if_pos h8]
  rw [splitOk_none e]
  exact ⟨by simp; omega, fun h => by cases h⟩
 ·have e : splitP p = some out := by
   rw [splitP, if_neg (by simp [hr]), if_neg (by simp [hp]), h6, if_neg h8, if_pos h5]
  rw [splitOk_some e, splitL_some e]
  exact ⟨by simp; omega, fun _ => rfl⟩
theorem pre_no {p : Str} (h : ((p == []) || !(((p.getD 0 0).toNat : Int) == 47)) = true) : hasPre p [47] = false := by
 rw [b47] at h
 cases p with
 | nil => rfl
 | cons c r =>
  simp at h
  simp [hasPre, h]
theorem pre_yes {p : Str} (h : ((p == []) || !(((p.getD 0 0).toNat : Int) == 47)) = false) : hasPre p [47] = true ∧ 1 ≤ p.length := by
 rw [b47] at h
 cases p with
 | nil => simp at h
 | cons c r =>
  simp at h
  simp [hasPre, h]; omega
theorem one_byte {p : Str} {k : Nat} (h : k < p.length) : (p.take (k + 1)).drop k = [p.getD k 0] := by
 rw [List.take_succ_eq_append_getElem h, getD_of h, List.drop_append_of_le_length (by rw [List.length_take]; omega), List.drop_of_length_le (by rw [List.length_take]; omega)]
 rfl
/-! texts -/
def textS (x : Perm) : Str := if checkS x != 0 then [] else if !x.deep then x.act ++ [32] ++ x.path else if x.path == [47] then x.act ++ [32] ++ x.path ++ [42] else x.act ++ [32] ++ x.path ++ [47, 42]
/-! what two lists have in common -/
end Go.Lx
/- Paths, more: what is joined is split again; lying within is starting alike; the reference's implication. Nothing of a program stands here. -/
namespace Go.Lx
open Go
theorem splitL_named {p : Str} : (splitL p).all namedS = true := by
 unfold splitL splitP
 split
 ·rfl
 ·split
  ·rfl
  ·split
   ·rfl
   ·split
    ·rename_i h; exact h
    ·rfl
/-! the reference's walks -/
def rPart (s : Str) : Bool := !((((s == []) || decide ((12 : Int) < s.length)) || s == [46]) || s == [46, 46]) && s.all nameB
theorem rPart_eq (s : Str) : rPart s = namedS s := by
 unfold rPart namedS
 have : (s == []) = decide ((s.length : Int) < 1) := by
  rw [Bool.eq_iff_iff, beq_iff_eq, decide_eq_true_eq, ← List.length_eq_zero_iff]; omega
 rw [this]
theorem rName (c : UInt8) : (((((decide ((97 : Int) ≤ c.toNat) && decide ((c.toNat : Int) ≤ 122)) || (decide ((48 : Int) ≤ c.toNat) && decide ((c.toNat : Int) ≤ 57))) || (c.toNat : Int) == 95) || (c.toNat : Int) == 46) || (c.toNat : Int) == 45) = nameB c := by
 unfold nameB
 rw [Bool.eq_iff_iff]
 simp
 try omega
theorem chk_r {x : Perm} {l : List Str} (h : splitOk x.path = true → l = splitL x.path) : (!splitOk x.path || (x.deep && (depthS x.path == 8))) = (!splitOk x.path || (x.deep && ((l.length : Int) == 8))) := by
 cases hp : splitOk x.path with
 | false => rfl
 | true => rw [h hp, depthS, if_pos hp]
theorem anyD_succ {α : Type} {l : List α} {p : α → Bool} {k : Nat} {z : α} (h : k < l.length) (ha : (l.take k).any p = false) (hp : p (l.getD k z) = false) : (l.take (k + 1)).any p = false := anyT_succ h ha (by simpa [List.getD, h] using hp)
theorem named_len {s : Str} (h : namedS s = true) : s.length ≤ 12 := by
 unfold namedS at h
 simp at h
 have := h.1.1.1.2
 omega
theorem splitL_mem {p s : Str} (h : s ∈ splitL p) : s.length ≤ 12 := named_len (List.all_eq_true.1 splitL_named s h)
theorem cmpM_r1 {x y : Perm} (h : (cmpS x.act y.act != 0) = true) : cmpM x y = cmpS x.act y.act := by rw [cmpM, if_pos h]
def cmpQ (x y : Perm) : Int := if splitOk x.path && splitOk y.path then cmpL (splitL x.path) (splitL y.path) else cmpS x.path y.path
theorem cmpM_q {x y : Perm} (h : (cmpS x.act y.act != 0) = false) : cmpM x y = if cmpQ x y != 0 then cmpQ x y else if x.deep == y.deep then 0 else if y.deep then -1 else 1 := by
 rw [cmpM, if_neg (by rw [h]; simp)]
 have e : (if (!splitOk x.path || !splitOk y.path) = true then cmpS x.path y.path else cmpP x.path y.path) = cmpQ x y := by
  unfold cmpQ cmpP
  cases splitOk x.path <;> cases splitOk y.path <;> simp
 simp only [e]
 by_cases h0 : cmpQ x y = 0
 ·simp [h0]
 ·have : (cmpQ x y != 0) = true := by simp [h0]
  simp [h0]
theorem cmpQ_yes {x y : Perm} (h : (splitOk x.path && splitOk y.path) = true) : cmpQ x y = cmpL (splitL x.path) (splitL y.path) := by rw [cmpQ, if_pos h]
theorem cmpQ_no {x y : Perm} (h : (splitOk x.path && splitOk y.path) = false) : cmpQ x y = cmpS x.path y.path := by rw [cmpQ, if_neg (by rw [h]; simp)]
theorem cmpM_a {x y : Perm} (h : (cmpS x.act y.act != 0) = false) {c : Int} (hc : cmpQ x y = c) (h1 : (c != 0) = true) : cmpM x y = c := by subst hc; rw [cmpM_q h, if_pos h1]
theorem cmpM_b {x y : Perm} (h : (cmpS x.act y.act != 0) = false) {c : Int} (hc : cmpQ x y = c) (h1 : (c != 0) = false) (h2 : (x.deep == y.deep) = true) : cmpM x y = 0 := by subst hc; rw [cmpM_q h, if_neg (by rw [h1]; simp), if_pos h2]
theorem cmpM_c {x y : Perm} (h : (cmpS x.act y.act != 0) = false) {c : Int} (hc : cmpQ x y = c) (h1 : (c != 0) = false) (h2 : (x.deep == y.deep) = false) (h3 : y.deep = true) : cmpM x y = -1 := by subst hc; rw [cmpM_q h, if_neg (by rw [h1]; simp), if_neg (by rw [h2]; simp), if_pos h3]
theorem cmpM_d {x y : Perm} (h : (cmpS x.act y.act != 0) = false) {c : Int} (hc : cmpQ x y = c) (h1 : (c != 0) = false) (h2 : (x.deep == y.deep) = false) (h3 : y.deep = false) : cmpM x y = 1 := by subst hc; rw [cmpM_q h, if_neg (by rw [h1]; simp), if_neg (by rw [h2]; simp), if_neg (by rw [h3]; simp)]
/-! inserting -/
def InsAt (l : List Perm) (p : Perm) (out : List Perm) (done : Bool) (k : Nat) : Prop :=
 k ≤ l.length ∧ out.length = k + (if done then 1 else 0) ∧ (l.take k).any (fun x => x == p) = false ∧ insGo cmpM p l = out ++ (if done then l.drop k else insGo cmpM p (l.drop k))
theorem dropP {l : List Perm} {k : Nat} (h : k < l.length) : l.drop k = l.getD k pz :: l.drop (k + 1) := by
 rw [List.drop_eq_getElem_cons h]; simp [List.getD, h]
theorem InsAt.start (l : List Perm) (p : Perm) : InsAt l p [] false 0 := ⟨Nat.zero_le _, rfl, by simp, by simp⟩
theorem InsAt.here {l : List Perm} {p : Perm} {out : List Perm} {done : Bool} {k : Nat} (h : InsAt l p out done k) (hk : k < l.length) (hn : (l.getD k pz == p) = false) (hc : (!done && decide (cmpM p (l.getD k pz) < 0)) = true) : InsAt l p (out ++ [p] ++ [l.getD k pz]) true (k + 1) := by
 obtain ⟨h1, h2, h3, h4⟩ := h
 simp only [Bool.and_eq_true, Bool.not_eq_true', decide_eq_true_eq] at hc
 obtain ⟨hd, hc⟩ := hc
 subst hd
 refine ⟨by omega, by simp [h2], anyD_succ (z := pz) hk h3 hn, ?_⟩
 rw [h4, if_neg (by simp), if_pos rfl, dropP hk, insGo, if_pos hc]
 simp
theorem InsAt.skip {l : List Perm} {p : Perm} {out : List Perm} {done : Bool} {k : Nat} (h : InsAt l p out done k) (hk : k < l.length) (hn : (l.getD k pz == p) = false) (hc : (!done && decide (cmpM p (l.getD k pz) < 0)) = false) : InsAt l p (out ++ [l.getD k pz]) done (k + 1) := by
 obtain ⟨h1, h2, h3, h4⟩ := h
 refine ⟨by omega, by simp [h2]; omega, anyD_succ (z := pz) hk h3 hn, ?_⟩
 rw [h4, dropP hk]
 cases done with
 | true => simp
 | false =>
  have : ¬ cmpM p (l.getD k pz) < 0 := by simpa using hc
  simp only [Bool.false_eq_true, if_false]
  rw [insGo, if_neg this, List.append_assoc]
  rfl
theorem InsAt.fin {l : List Perm} {p : Perm} {out : List Perm} {done : Bool} {k : Nat} (h : InsAt l p out done k) (hk : l.length ≤ k) : insG cmpM l p = if done then out else out ++ [p] := by
 obtain ⟨h1, h2, h3, h4⟩ := h
 rw [List.take_of_length_le hk] at h3
 rw [insG, if_neg (by rw [h3]; simp), h4, List.drop_of_length_le hk]
 cases done <;> simp [insGo]
def actions : List Str := [[114, 101, 97, 100], [119, 114, 105, 116, 101], [114, 117, 110], [114, 101, 97, 100], [119, 114, 105, 116, 101], [114, 101, 97, 100], [], [98, 121], [82, 101, 97, 100], [97, 95, 118, 101, 114, 121, 95, 108, 111, 110, 103, 95, 97, 99, 116, 105, 111, 110]]
def pieces : List Str := [[97], [98], [99], [97], [98], [100, 46, 49], [120, 45, 121], [97], [95], [46, 46], [46], [], [65], [116, 104, 105, 114, 116, 101, 101, 110, 45, 108, 111, 110, 103]]
def actionS (n : UInt8) : Str := actions.getD (n.toNat % 10) []
def pieceS (c : UInt8) : Str := pieces.getD (c.toNat % 14) []
def pathS (l : List UInt8) : Str := joinP ((l.take 10).map pieceS)
theorem pieceS_len (c : UInt8) : (pieceS c).length ≤ 18 := by
 have h : ∀ i, i < 14 → (pieces.getD i []).length ≤ 18 := by decide
 exact h _ (Nat.mod_lt _ (by decide))
theorem actionS_len (c : UInt8) : (actionS c).length ≤ 18 := by
 have h : ∀ i, i < 10 → (actions.getD i []).length ≤ 18 := by decide
 exact h _ (Nat.mod_lt _ (by decide))
theorem joinP_len : ∀ (l : List Str) (m : Nat), (∀ s ∈ l, s.length ≤ m) → (joinP l).length ≤ 1 + l.length * (m + 1)
 | [], m, _ => by simp [joinP, Lib.join, List.intercalate]
 | [x], m, h => by
  have := h x (by simp)
  simp [joinP, Lib.join_one]; omega
 | x :: y :: r, m, h => by
  have h1 := joinP_len (y :: r) m (fun s hs => h s (by simp [hs]))
  have h2 := h x (by simp)
  have e1 : Lib.join (x :: y :: r) [47] = x ++ [47] ++ Lib.join (y :: r) [47] := List.intercalate_cons_cons
  simp only [joinP, e1, List.length_cons, List.length_append, List.length_nil] at h1 ⊢
  have e2 : (r.length + 1 + 1) * (m + 1) = (r.length + 1) * (m + 1) + (m + 1) := by rw [Nat.add_mul (r.length + 1) 1]; omega
  omega
theorem pathS_len (l : List UInt8) : (pathS l).length ≤ 200 := by
 have h := joinP_len ((l.take 10).map pieceS) 18 (fun s hs => by
  obtain ⟨c, _, rfl⟩ := List.mem_map.1 hs
  exact pieceS_len c)
 have h2 : ((l.take 10).map pieceS).length ≤ 10 := by simp; omega
 have h3 : ((l.take 10).map pieceS).length * 19 ≤ 10 * 19 := Nat.mul_le_mul_right _ h2
 unfold pathS; omega
end Go.Lx
