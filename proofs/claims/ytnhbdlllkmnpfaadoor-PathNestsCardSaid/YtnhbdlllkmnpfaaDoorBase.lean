/- A small program logic over the model's Code.wp: frames as functions, three posts (normal, exits, return), one rule a form of code. Nothing of a program stands here. -/
import Derived.WalkKit
import Derived.Below
import Derived.WalkLawsBesides
namespace Go.Lx
open Go
set_option linter.unusedSimpArgs false
set_option linter.unusedVariables false
set_option linter.unnecessarySimpa false

abbrev Fr := Nat → Value
def Fr.set (fr : Fr) (d : Nat) (v : Value) : Fr := fun j => bif Nat.beq j d then v else fr j
def Fr.put (fr : Fr) (d : Option Nat) (v : Value) : Fr := match d with | some d => fr.set d v | none => fr
def frOf (a : Act) : Fr := fun i => a.tmps.getD i undef
structure Is (a : Act) (n : Nat) (fr : Fr) : Prop where
  df : a.defers = []
  sz : a.tmps.size = n
  fr : frOf a = fr
def ev (fr : Fr) : Operand → Value
  | .tmp t => fr t
  | .const v => v
  | .global g => .pointer (some ⟨g, 0, none⟩)
  | .func f => .func (.func f) #[] #[]
theorem ev_eq {a : Act} {n : Nat} {fr : Fr} (h : Is a n fr) : a.eval = ev fr := by
  funext x
  obtain ⟨_, _, rfl⟩ := h
  cases x <;> rfl
def dstOk (n : Nat) : Option Nat → Bool
  | some d => Nat.blt d n
  | none => true
theorem is_put {a : Act} {n : Nat} {fr : Fr} {d : Option Nat} (h : Is a n fr) (hd : dstOk n d = true) (v : Value) : Is (a.put d v) n (fr.put d v) := by
  obtain ⟨h1, h2, rfl⟩ := h
  cases d with
  | none => exact ⟨h1, h2, rfl⟩
  | some d =>
    have hlt : d < n := by simpa [dstOk, Nat.blt_eq] using hd
    refine ⟨h1, by simpa [Act.put] using h2, ?_⟩
    funext i
    simp only [frOf, Act.put, Fr.put, Fr.set]
    by_cases hi : i = d
    · subst hi
      have : i < a.tmps.size := by omega
      simp [Array.getD, this]
    · have hb : Nat.beq i d = false := by
        cases hx : Nat.beq i d with
        | false => rfl
        | true => exact absurd (Nat.eq_of_beq_eq_true hx) hi
      rw [hb]
      simp only [cond_false, Array.getD_eq_getD_getElem?]
      rw [Array.getElem?_setIfInBounds_ne (by omega)]

def post (n : Nat) (K : Fr → World → Prop) (E : Nat → Fr → World → Prop) (R : Fr → World → Prop) : Exit → Act → World → Prop
  | .normal, a, w => ∃ fr, Is a n fr ∧ K fr w
  | .ret, a, w => ∃ fr, Is a n fr ∧ R fr w
  | .exit i, a, w => ∃ fr, Is a n fr ∧ E i fr w
  | _, _, _ => False
/-- The code c, from frame fr (of n slots) and world w: it ends normally in K, leaves by exit i in E i, or returns in R. -/
def W (P : Program) (n : Nat) (c : Code) (K : Fr → World → Prop) (E : Nat → Fr → World → Prop) (R : Fr → World → Prop) (fr : Fr) (w : World) : Prop :=
  ∀ a, Is a n fr → c.wp P (post n K E R) a w
section
variable {P : Program} {n : Nat} {K K' : Fr → World → Prop} {E E' : Nat → Fr → World → Prop} {R R' : Fr → World → Prop} {fr : Fr} {w : World}

theorem W.mono {c : Code} (h : W P n c K E R fr w) (hk : ∀ fr w, K fr w → K' fr w) (he : ∀ i fr w, E i fr w → E' i fr w) (hr : ∀ fr w, R fr w → R' fr w) : W P n c K' E' R' fr w := by
  intro a ha
  refine wp_mono (h a ha) ?_
  intro e a w q
  cases e <;> simp only [post] at q ⊢
  · obtain ⟨f, h1, h2⟩ := q; exact ⟨f, h1, hk _ _ h2⟩
  · obtain ⟨f, h1, h2⟩ := q; exact ⟨f, h1, he _ _ _ h2⟩
  · obtain ⟨f, h1, h2⟩ := q; exact ⟨f, h1, hr _ _ h2⟩

theorem W_skip (h : K fr w) : W P n .skip K E R fr w := fun _ ha => wp_skip ⟨_, ha, h⟩
theorem W_ret (h : R fr w) : W P n .ret K E R fr w := fun _ ha => wp_ret ⟨_, ha, h⟩
theorem W_exit {i : Nat} (h : E i fr w) : W P n (.exit i) K E R fr w := fun _ ha => wp_exit ⟨_, ha, h⟩
theorem W_seq {x y : Code} (h : W P n x (W P n y K E R) E R fr w) : W P n (.seq x y) K E R fr w := by
  intro a ha
  refine wp_seq (wp_mono (h a ha) ?_)
  intro e a w q
  cases e <;> simp only [post, Exit.then] at q ⊢
  · obtain ⟨f, h1, h2⟩ := q; exact h2 a h1
  all_goals exact q
theorem W_cond {x : Operand} {t e : Code} {b : Bool} (hx : ev fr x = .bool b) (ht : b = true → W P n t K E R fr w) (hf : b = false → W P n e K E R fr w) :
    W P n (.cond x t e) K E R fr w := by
  intro a ha
  have he : a.eval x = .bool b := by rw [ev_eq ha]; exact hx
  cases b
  · exact wp_cond_false he (hf rfl a ha)
  · exact wp_cond_true he (ht rfl a ha)
theorem W_cond_true {x : Operand} {t e : Code} (hx : ev fr x = .bool true) (ht : W P n t K E R fr w) : W P n (.cond x t e) K E R fr w :=
  W_cond hx (fun _ => ht) (fun h => by cases h)
theorem W_cond_false {x : Operand} {t e : Code} (hx : ev fr x = .bool false) (hf : W P n e K E R fr w) : W P n (.cond x t e) K E R fr w :=
  W_cond hx (fun h => by cases h) (fun _ => hf)
def exAt (E : Nat → Fr → World → Prop) (id : Nat) (K : Fr → World → Prop) : Nat → Fr → World → Prop := fun j => bif Nat.beq j id then K else E j
theorem exAt_hit {id : Nat} (h : K fr w) : exAt E id K id fr w := by
  have : Nat.beq id id = true := Nat.beq_refl id
  simp only [exAt, this, cond_true]; exact h
theorem exAt_miss {id j : Nat} (hj : Nat.beq j id = false) (h : E j fr w) : exAt E id K j fr w := by
  simp only [exAt, hj, cond_false]; exact h
theorem W_block {id : Nat} {c : Code} (h : W P n c K (exAt E id K) R fr w) : W P n (.block id c) K E R fr w := by
  intro a ha
  refine wp_block (wp_mono (h a ha) ?_)
  intro e a w q
  cases e <;> simp only [post, Exit.inBlock] at q ⊢
  · exact q
  · rename_i i
    obtain ⟨f, h1, h2⟩ := q
    by_cases hi : i = id
    · subst hi; rw [if_pos rfl]
      refine ⟨f, h1, ?_⟩
      have : Nat.beq i i = true := Nat.beq_refl i
      simpa only [exAt, this, cond_true] using h2
    · rw [if_neg hi]
      refine ⟨f, h1, ?_⟩
      have hb : Nat.beq i id = false := by
        cases hx : Nat.beq i id with
        | false => rfl
        | true => exact absurd (Nat.eq_of_beq_eq_true hx) hi
      simpa only [exAt, hb, cond_false] using h2
  · exact q
theorem least_of (p : Nat → Prop) (h : ∃ k, p k) : ∃ k, p k ∧ ∀ j, p j → k ≤ j := by
  obtain ⟨k, hk⟩ := h
  induction k using Nat.strongRecOn with
  | _ k ih =>
    by_cases hx : ∃ j, j < k ∧ p j
    · obtain ⟨j, hj, hpj⟩ := hx; exact ih j hj hpj
    · exact ⟨k, hk, fun j hj => Nat.le_of_not_lt fun hlt => hx ⟨j, hlt, hj⟩⟩
/-- A loop: I, with ghost x; mu goes down each round. -/
theorem W_loop {c : Code} {α : Type} (I : α → Fr → World → Prop) (mu : α → Nat) (x0 : α) (h0 : I x0 fr w)
    (hr : ∀ x fr w, I x fr w → W P n c (fun fr' w' => ∃ y, I y fr' w' ∧ mu y < mu x) E R fr w) : W P n (.loop c) K E R fr w := by
  intro a ha
  classical
  let J : Act → World → Prop := fun a w => ∃ x, I x (frOf a) w ∧ Is a n (frOf a)
  let p : Act → World → Nat → Prop := fun a w k => ∃ x, (I x (frOf a) w) ∧ mu x = k
  let m : Act → World → Nat := fun a w => if h : ∃ k, p a w k then Classical.choose (least_of (p a w) h) else 0
  have hm : ∀ a w (x : α), I x (frOf a) w → m a w ≤ mu x := by
    intro a w x hx
    have h : ∃ k, p a w k := ⟨_, x, hx, rfl⟩
    have e : m a w = Classical.choose (least_of (p a w) h) := dif_pos h
    rw [e]
    exact (Classical.choose_spec (least_of (p a w) h)).2 _ ⟨x, hx, rfl⟩
  have hm' : ∀ a w, (∃ x, I x (frOf a) w) → ∃ x, I x (frOf a) w ∧ mu x = m a w := by
    intro a w ⟨x, hx⟩
    have h : ∃ k, p a w k := ⟨_, x, hx, rfl⟩
    have e : m a w = Classical.choose (least_of (p a w) h) := dif_pos h
    rw [e]
    exact (Classical.choose_spec (least_of (p a w) h)).1
  refine wp_loop J m ⟨x0, by rw [ha.fr]; exact h0, ⟨ha.df, ha.sz, rfl⟩⟩ ?_
  rintro a w ⟨x, hx, his⟩
  obtain ⟨y, hy, hmy⟩ := hm' a w ⟨x, hx⟩
  refine wp_mono (hr y _ w hy a his) ?_
  intro e a' w' q
  cases e <;> simp only [post, Exit.then] at q ⊢
  · obtain ⟨f, h1, z, hz, hlt⟩ := q
    have hf := h1.fr
    subst hf
    exact ⟨⟨z, hz, h1⟩, by have := hm a' w' z hz; omega⟩
  all_goals exact q

/-! ### Regions -/
def Rg (P : Program) (n : Nat) (ops : Array Oper) (l : List Oper) (K : Fr → World → Prop) (fr : Fr) (w : World) : Prop :=
  ∀ (Q : Exit → Act → World → Prop), (∀ a fr w, Is a n fr → K fr w → Q .normal a w) → ∀ a, Is a n fr → wpList P ops Q l a w
theorem W_region {id : Nat} {l : List Oper} (h : Rg P n l.toArray l K fr w) : W P n (.region id l.toArray false) K E R fr w := by
  intro a ha
  exact wp_region_lit (h _ (fun _ _ _ h1 h2 => ⟨_, h1, h2⟩) a ha)
theorem Rg_nil {ops : Array Oper} (h : K fr w) : Rg P n ops [] K fr w := fun _ hq _ ha => wpList_nil (hq _ _ _ ha h)
/-- An operation that yields a value. -/
theorem Rg_run {ops : Array Oper} {d : Option Nat} {op : Op} {ty : TypeId} {pos : String} {af : Array Edge} {rest : List Oper} {v : Value} {w' : World} (hd : dstOk n d = true)
    (h : (execOp (ev fr) ⟨d, op, ty, pos, af, none⟩).run P w = .ok (.value v) w') (hk : Rg P n ops rest K (fr.put d v) w') : Rg P n ops (⟨d, op, ty, pos, af, none⟩ :: rest) K fr w := by
  intro Q hq a ha
  refine wpList_plain rfl fun K' hK' => ?_
  unfold Oper.wp
  rw [ev_eq ha, h]
  exact hK' _ _ (hk Q hq _ (is_put ha hd v))
theorem Rg_skip {ops : Array Oper} {d : Option Nat} {op : Op} {ty : TypeId} {pos : String} {af : Array Edge} {rest : List Oper} {w' : World} (hd : dstOk n d = true)
    (h : (execOp (ev fr) ⟨d, op, ty, pos, af, none⟩).run P w = .ok .skip w') (hk : Rg P n ops rest K (fr.put d undef) w') : Rg P n ops (⟨d, op, ty, pos, af, none⟩ :: rest) K fr w := by
  intro Q hq a ha
  refine wpList_plain rfl fun K' hK' => ?_
  unfold Oper.wp
  rw [ev_eq ha, h]
  exact hK' _ _ (hk Q hq _ (is_put ha hd undef))
/-- What a call must do: it returns, with S of value and world. -/
def Ok (P : Program) (f : FuncId) (args : Array Value) (w : World) (S : Value → World → Prop) : Prop :=
  Calls P f args w fun e w' => ∃ v, e = .returned v ∧ S v w'
theorem Ok.mono {f : FuncId} {args : Array Value} {S S' : Value → World → Prop} (h : Ok P f args w S) (hs : ∀ v w', S v w' → S' v w') : Ok P f args w S' :=
  Calls.mono h fun _ _ ⟨v, h1, h2⟩ => ⟨v, h1, hs _ _ h2⟩
theorem Rg_enter {ops : Array Oper} {d : Option Nat} {op : Op} {ty : TypeId} {pos : String} {af : Array Edge} {rest : List Oper} {f : FuncId} {args : Array Value} {w0 : World} (hd : dstOk n d = true)
    (h : (execOp (ev fr) ⟨d, op, ty, pos, af, none⟩).run P w = .ok (.enter f args) w0) (hk : Ok P f args w0 fun v w' => Rg P n ops rest K (fr.put d v) w') : Rg P n ops (⟨d, op, ty, pos, af, none⟩ :: rest) K fr w := by
  intro Q hq a ha
  refine wpList_plain rfl fun K' hK' => ?_
  unfold Oper.wp
  rw [ev_eq ha, h]
  refine Calls.mono hk ?_
  rintro e w' ⟨v, rfl, hv⟩
  exact hK' _ _ (hv Q hq _ (is_put ha hd v))
theorem yielded_of {ops : Array Oper} {a : Act} {i g : Nat} {b : Bool} (ha : Is a n fr) (hi : (ops[i]?).bind (·.dst) = some g) (hb : fr g = .bool b) : yielded ops a.tmps i = some b := by
  unfold yielded
  have h1 : a.tmps.getD g undef = .bool b := by rw [← hb, ← ha.fr]; rfl
  have h2 : a.tmps[g]? = some (.bool b) := by
    rw [Array.getD_eq_getD_getElem?] at h1
    cases hx : a.tmps[g]? with
    | none => rw [hx] at h1; simp [undef] at h1
    | some y => rw [hx] at h1; simpa using h1
  simp [hi, h2]
/-- A guarded operation whose guard says no. -/
theorem Rg_off {ops : Array Oper} {o : Oper} {rest : List Oper} {b c : Bool} (i g : Nat) (hg : o.guard = some (i, b)) (hi : (ops[i]?).bind (·.dst) = some g) (hc : fr g = .bool c) (hne : (c == b) = false) (hd : dstOk n o.dst = true) (hk : Rg P n ops rest K (fr.put o.dst undef) w) : Rg P n ops (o :: rest) K fr w := by
  intro Q hq a ha
  refine wpList_step fun K' hK' => ?_
  have hw : Region.wanted o (yielded ops a.tmps) = false := by
    simp only [Region.wanted, hg, yielded_of ha hi hc]
    cases c <;> cases b <;> simp_all
  rw [hw]
  exact hK' _ _ (hk Q hq _ (is_put ha hd undef))
/-- A guarded operation whose guard says yes: take the guard away. -/
theorem Rg_on {ops : Array Oper} {d : Option Nat} {op : Op} {ty : TypeId} {pos : String} {after : Array Edge} {rest : List Oper} {b : Bool} (i g : Nat) (hi : (ops[i]?).bind (·.dst) = some g) (hc : fr g = .bool b) (hk : Rg P n ops (⟨d, op, ty, pos, after, none⟩ :: rest) K fr w) : Rg P n ops (⟨d, op, ty, pos, after, some (i, b)⟩ :: rest) K fr w := by
  intro Q hq a ha
  have := hk Q hq a ha
  unfold wpList at this ⊢
  have hw : Region.wanted (⟨d, op, ty, pos, after, some (i, b)⟩ : Oper) (yielded ops a.tmps) = true := by
    simp only [Region.wanted, yielded_of ha hi hc]
    simp
  have hw' : Region.wanted (⟨d, op, ty, pos, after, none⟩ : Oper) (yielded ops a.tmps) = true := rfl
  rw [hw'] at this
  rw [hw]
  exact this
theorem Rg_split {ops : Array Oper} {l : List Oper} {c : Bool} (g : Nat) (_hc : fr g = .bool c) (ht : c = true → Rg P n ops l K fr w) (hf : c = false → Rg P n ops l K fr w) : Rg P n ops l K fr w := by
  cases c with
  | true => exact ht rfl
  | false => exact hf rfl
/-- A guarded operation that, where it runs, yields v and leaves the world alone. -/
theorem Rg_may {ops : Array Oper} {d : Option Nat} {op : Op} {ty : TypeId} {pos : String} {after : Array Edge} {rest : List Oper} {v : Value} {b c : Bool} (i g : Nat) (hi : (ops[i]?).bind (·.dst) = some g) (hc : fr g = .bool c) (hd : dstOk n d = true) (h : (c == b) = true → (execOp (ev fr) ⟨d, op, ty, pos, after, none⟩).run P w = .ok (.value v) w) (hk : Rg P n ops rest K (fr.put d (bif c == b then v else undef)) w) : Rg P n ops (⟨d, op, ty, pos, after, some (i, b)⟩ :: rest) K fr w := by
  cases hcb : (c == b) with
  | true =>
    have : c = b := by simpa using hcb
    subst this
    refine Rg_on i g hi hc (Rg_run hd (h hcb) ?_)
    rw [hcb] at hk
    exact hk
  | false =>
    rw [hcb] at hk
    exact Rg_off i g rfl hi hc hcb hd hk
end

/-! ### A function's body -/
def argFr (args : List Value) : Fr := fun j => (args[j]?).getD undef
theorem Ok_of_W {P : Program} {f : FuncId} {fn : Func} {c : Code} {args : Array Value} {w : World} {S : Value → World → Prop} (n : Nat)
    (hf : P.funcs[f]? = some fn) (hb : fn.body = some c) (hn : fn.ntmps = n) (ha : Nat.ble args.size n = true)
    (h : W P n c (fun fr w => ∃ v, (∀ a, Is a n fr → (results fn a.tmps).run P w = .ok v w) ∧ S v w) (fun _ _ _ => False) (fun fr w => ∃ v, (∀ a, Is a n fr → (results fn a.tmps).run P w = .ok v w) ∧ S v w) (argFr args.toList) w) : Ok P f args w S := by
  have hle : args.size ≤ n := by simpa using ha
  refine calls_of_wp hf hb (wp_mono (h _ ⟨rfl, by simp; omega, ?_⟩) ?_)
  · funext i
    simp only [frOf, argFr, Array.getD_eq_getD_getElem?, Array.getElem?_append]
    by_cases hi : i < args.size
    · simp [hi]
    · simp only [hi, if_false, Array.getElem?_replicate]
      have : args.toList[i]? = none := by simp; omega
      rw [this]
      split <;> rfl
  · intro e a w q
    cases e <;> simp only [post] at q
    · obtain ⟨fr, h1, v, h2, h3⟩ := q
      exact ⟨h1.df, v, h2 a h1, v, rfl, h3⟩
    · obtain ⟨fr, h1, h2⟩ := q; exact h2.elim
    · obtain ⟨fr, h1, v, h2, h3⟩ := q
      exact ⟨h1.df, v, h2 a h1, v, rfl, h3⟩
theorem res_tmp {fn : Func} {n t : Nat} {fr : Fr} {P : Program} {w : World} {v : Value} (h : fn.results = #[.tmp t]) (hv : fr t = v) : ∀ a, Is a n fr → (results fn a.tmps).run P w = .ok v w := by
  intro a ha
  rw [results_tmp h, ← hv, ← ha.fr]; rfl
theorem res_tmp2 {fn : Func} {n t u : Nat} {fr : Fr} {P : Program} {w : World} {v v' : Value} (h : fn.results = #[.tmp t, .tmp u]) (hv : fr t = v) (hv' : fr u = v') : ∀ a, Is a n fr → (results fn a.tmps).run P w = .ok (.tuple #[v, v']) w := by
  intro a ha
  rw [results_tmp2 h, ← hv, ← hv', ← ha.fr]; rfl
theorem res_none {fn : Func} {n : Nat} {fr : Fr} {P : Program} {w : World} (h : fn.results = #[]) : ∀ a, Is a n fr → (results fn a.tmps).run P w = .ok (.tuple #[]) w := by
  intro a ha
  rw [results_none h]
end Go.Lx
