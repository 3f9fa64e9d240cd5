/- Several texts in one file. -/
import Derived.WalkKit
import Derived.Below
import Derived.WalkLawsBesides
import Derived.TacticsIn
import Derived.RangeFuncLeaves
import Derived.RangeFuncRecord
import Derived.Laws.AppendOwn
set_option linter.unusedSimpArgs false
set_option linter.unusedVariables false
set_option linter.unnecessarySimpa false
/- A small program logic over the model's Code.wp: frames as functions, three posts (normal, exits, return), one rule a form of code. Nothing of a program stands here. -/
namespace Go.Lx
open Go
structure Fr where
 sl : Nat → Value
 ds : List Deferred
instance : CoeFun Fr (fun _ => Nat → Value) := ⟨Fr.sl⟩
theorem Fr.ext' {f g : Fr} (h : ∀ j, f j = g j) (hd : f.ds = g.ds) : f = g := by
 obtain ⟨f, d⟩ := f
 obtain ⟨g, e⟩ := g
 obtain rfl : f = g := funext h
 obtain rfl : d = e := hd
 rfl
def Fr.set (fr : Fr) (d : Nat) (v : Value) : Fr := ⟨fun j => bif Nat.beq j d then v else fr j, fr.ds⟩
def Fr.put (fr : Fr) (d : Option Nat) (v : Value) : Fr := match d with | some d => fr.set d v | none => fr
def frOf (a : Act) : Fr := ⟨fun i => a.tmps.getD i undef, a.defers⟩
structure Is (a : Act) (n : Nat) (fr : Fr) : Prop where
 sz : a.tmps.size = n
 fr : frOf a = fr
theorem Is.df {a : Act} {n : Nat} {fr : Fr} (h : Is a n fr) : a.defers = fr.ds := by rw [← h.fr]; rfl
def ev (fr : Fr) : Operand → Value
 | .tmp t => fr t
 | .const v => v
 | .global g => .pointer (some ⟨g, 0, none⟩)
 | .func f => .func (.func f) #[] #[]
theorem ev_eq {a : Act} {n : Nat} {fr : Fr} (h : Is a n fr) : a.eval = ev fr := by
 funext x
 obtain ⟨_, rfl⟩ := h
 cases x <;> rfl
def dstOk (n : Nat) : Option Nat → Bool
 | some d => Nat.blt d n
 | none => true
theorem J4 {a : Act} {n : Nat} {fr : Fr} {d : Option Nat} (h : Is a n fr) (hd : dstOk n d = true) (v : Value) : Is (a.put d v) n (fr.put d v) := by
 obtain ⟨h2, rfl⟩ := h
 cases d with
 | none => exact ⟨h2, rfl⟩
 | some d =>
  have hlt : d < n := by simpa [dstOk, Nat.blt_eq] using hd
  refine ⟨by simpa [Act.put] using h2, (Fr.ext' (fun i => ?_) rfl)⟩
  simp only [frOf, Act.put, Fr.put, Fr.set]
  by_cases hi : i = d
  ·subst hi
   have : i < a.tmps.size := by omega
   simp [Array.getD, this]
  ·have hb : Nat.beq i d = false := by
    cases hx : Nat.beq i d with
    | false => rfl
    | true => exact absurd (Nat.eq_of_beq_eq_true hx) hi
   rw [hb]
   simp only [cond_false, Array.getD_eq_getD_getElem?]
   rw [Array.getElem?_setIfInBounds_ne (by omega)]
def post (n : Nat) (K : Fr → World → Prop) (E : Nat → Fr → World → Prop) (R : Fr → World → Prop) : Exit → Act → World → Prop
 | .normal, a, w => ∃ fr, Is a n fr ∧ K fr w
 | .ret, a, w => ∃ fr, Is a n fr ∧ R fr w
 | .exit i, a, w => ∃ fr, Is a n fr ∧ E i fr w
 | _, _, _ => False
def Fw (r : Option Nat) : Fence := { fn := fun _ => True, depth := none, alive := false, round := r }
theorem Z4 {P : Program} {r : Option Nat} {ρ : Operand → Value} {o : Oper} {w w' : World} {x : Next} (h : (execOp ρ o).run P w = .ok x w') (hx : ∀ d, x ≠ .defer d) : (Oper.semAt r ρ o).run P w = .ok x w' := by
 by_cases hd : ∃ c, o.op = .defer c
 ·exfalso
  obtain ⟨c, hc⟩ := hd
  unfold execOp at h
  rw [hc] at h
  simp only [Sem.run_bind] at h
  cases hr : (resolve ρ c o.type).run P w with
  | ok d w1 => rw [hr] at h; simp [Result.andThen] at h; exact hx _ h.1.symm
  | halt y w1 => rw [hr] at h; simp [Result.andThen] at h
 ·rw [Oper.semAt_eq _ _ _ (fun c e => hd ⟨c, e⟩)]
  exact h
theorem J5 {r : Option Nat} {N : Nat} {P : Program} {f : FuncId} {args : Array Value} {w : World} {R : Ending → World → Prop} (h : Calls P f args w R) : CallsIn (Fw r) N P f args w R :=
 (callsIn_wide (n := N)).2 h
def W (r : Option Nat) (P : Program) (n : Nat) (c : Code) (K : Fr → World → Prop) (E : Nat → Fr → World → Prop) (R : Fr → World → Prop) (fr : Fr) (w : World) : Prop :=
 ∀ N a, Is a n fr → c.wpIn (Fw r) N P (post n K E R) a w
section
variable {r : Option Nat} {P : Program} {n : Nat} {K K' : Fr → World → Prop} {E E' : Nat → Fr → World → Prop} {R R' : Fr → World → Prop} {fr : Fr} {w : World}
theorem W.mono {c : Code} (h : W r P n c K E R fr w) (hk : ∀ fr w, K fr w → K' fr w) (he : ∀ i fr w, E i fr w → E' i fr w) (hr : ∀ fr w, R fr w → R' fr w) : W r P n c K' E' R' fr w := by
 intro N a ha
 refine wpIn_mono (h N a ha) ?_
 intro e a w q
 cases e <;> simp only [post] at q ⊢
 ·obtain ⟨f, h1, h2⟩ := q; exact ⟨f, h1, hk _ _ h2⟩
 ·obtain ⟨f, h1, h2⟩ := q; exact ⟨f, h1, he _ _ _ h2⟩
 ·obtain ⟨f, h1, h2⟩ := q; exact ⟨f, h1, hr _ _ h2⟩
theorem Qp (h : K fr w) : W r P n .skip K E R fr w := fun _ _ ha => wpIn_skip ⟨_, ha, h⟩
theorem Qu (h : R fr w) : W r P n .ret K E R fr w := fun _ _ ha => wpIn_ret ⟨_, ha, h⟩
theorem QN {i : Nat} (h : E i fr w) : W r P n (.exit i) K E R fr w := fun _ _ ha => wpIn_exit ⟨_, ha, h⟩
theorem Qf {x y : Code} (h : W r P n x (W r P n y K E R) E R fr w) : W r P n (.seq x y) K E R fr w := by
 intro N a ha
 refine wpIn_seq (wpIn_mono (h N a ha) ?_)
 intro e a w q
 cases e <;> simp only [post, Exit.then] at q ⊢
 ·obtain ⟨f, h1, h2⟩ := q; exact h2 N a h1
 all_goals exact q
theorem Qw {x : Operand} {t e : Code} {b : Bool} (hx : ev fr x = .bool b) (ht : b = true → W r P n t K E R fr w) (hf : b = false → W r P n e K E R fr w) :
  W r P n (.cond x t e) K E R fr w := by
 intro N a ha
 have he : a.eval x = .bool b := by rw [ev_eq ha]; exact hx
 cases b
 ·exact wpIn_cond_false he (hf rfl N a ha)
 ·exact wpIn_cond_true he (ht rfl N a ha)
theorem Za {x : Operand} {t e : Code} (hx : ev fr x = .bool true) (ht : W r P n t K E R fr w) : W r P n (.cond x t e) K E R fr w :=
 Qw hx (fun _ => ht) (fun h => by cases h)
theorem Qq {x : Operand} {t e : Code} (hx : ev fr x = .bool false) (hf : W r P n e K E R fr w) : W r P n (.cond x t e) K E R fr w :=
 Qw hx (fun h => by cases h) (fun _ => hf)
def exAt (E : Nat → Fr → World → Prop) (id : Nat) (K : Fr → World → Prop) : Nat → Fr → World → Prop := fun j => bif Nat.beq j id then K else E j
theorem QI {id : Nat} (h : K fr w) : exAt E id K id fr w := by
 have : Nat.beq id id = true := Nat.beq_refl id
 simp only [exAt, this, cond_true]; exact h
theorem exAt_miss {id j : Nat} (hj : Nat.beq j id = false) (h : E j fr w) : exAt E id K j fr w := by
 simp only [exAt, hj, cond_false]; exact h
theorem Qt {id : Nat} {c : Code} (h : W r P n c K (exAt E id K) R fr w) : W r P n (.block id c) K E R fr w := by
 intro N a ha
 refine wpIn_block (wpIn_mono (h N a ha) ?_)
 intro e a w q
 cases e <;> simp only [post, Exit.inBlock] at q ⊢
 ·exact q
 ·rename_i i
  obtain ⟨f, h1, h2⟩ := q
  by_cases hi : i = id
  ·subst hi; rw [if_pos rfl]
   refine ⟨f, h1, ?_⟩
   have : Nat.beq i i = true := Nat.beq_refl i
   simpa only [exAt, this, cond_true] using h2
  ·rw [if_neg hi]
   refine ⟨f, h1, ?_⟩
   have hb : Nat.beq i id = false := by
    cases hx : Nat.beq i id with
    | false => rfl
    | true => exact absurd (Nat.eq_of_beq_eq_true hx) hi
   simpa only [exAt, hb, cond_false] using h2
 ·exact q
theorem Jv (p : Nat → Prop) (h : ∃ k, p k) : ∃ k, p k ∧ ∀ j, p j → k ≤ j := by
 obtain ⟨k, hk⟩ := h
 induction k using Nat.strongRecOn with
 | _ k ih =>
  by_cases hx : ∃ j, j < k ∧ p j
  ·obtain ⟨j, hj, hpj⟩ := hx; exact ih j hj hpj
  ·exact ⟨k, hk, fun j hj => Nat.le_of_not_lt fun hlt => hx ⟨j, hlt, hj⟩⟩
theorem W_loop {c : Code} {α : Type} (I : α → Fr → World → Prop) (mu : α → Nat) (x0 : α) (h0 : I x0 fr w)
  (hr : ∀ x fr w, I x fr w → W r P n c (fun fr' w' => ∃ y, I y fr' w' ∧ mu y < mu x) E R fr w) : W r P n (.loop c) K E R fr w := by
 intro N a ha
 classical
 let J : Act → World → Prop := fun a w => ∃ x, I x (frOf a) w ∧ Is a n (frOf a)
 let p : Act → World → Nat → Prop := fun a w k => ∃ x, (I x (frOf a) w) ∧ mu x = k
 let m : Act → World → Nat := fun a w => if h : ∃ k, p a w k then Classical.choose (Jv (p a w) h) else 0
 have hm : ∀ a w (x : α), I x (frOf a) w → m a w ≤ mu x := by
  intro a w x hx
  have h : ∃ k, p a w k := ⟨_, x, hx, rfl⟩
  have e : m a w = Classical.choose (Jv (p a w) h) := dif_pos h
  rw [e]
  exact (Classical.choose_spec (Jv (p a w) h)).2 _ ⟨x, hx, rfl⟩
 have hm' : ∀ a w, (∃ x, I x (frOf a) w) → ∃ x, I x (frOf a) w ∧ mu x = m a w := by
  intro a w ⟨x, hx⟩
  have h : ∃ k, p a w k := ⟨_, x, hx, rfl⟩
  have e : m a w = Classical.choose (Jv (p a w) h) := dif_pos h
  rw [e]
  exact (Classical.choose_spec (Jv (p a w) h)).1
 refine wpIn_loop J m ⟨x0, by rw [ha.fr]; exact h0, ⟨ha.sz, rfl⟩⟩ ?_
 rintro a w ⟨x, hx, his⟩
 obtain ⟨y, hy, hmy⟩ := hm' a w ⟨x, hx⟩
 refine wpIn_mono (hr y _ w hy N a his) ?_
 intro e a' w' q
 cases e <;> simp only [post, Exit.then] at q ⊢
 ·obtain ⟨f, h1, z, hz, hlt⟩ := q
  have hf := h1.fr
  subst hf
  exact ⟨⟨z, hz, h1⟩, by have := hm a' w' z hz; omega⟩
 all_goals exact q
/-! ### Regions -/
def Rg (r : Option Nat) (P : Program) (n : Nat) (ops : Array Oper) (l : List Oper) (K : Fr → World → Prop) (fr : Fr) (w : World) : Prop :=
 ∀ (N : Nat) (Q : Exit → Act → World → Prop), (∀ a fr w, Is a n fr → K fr w → Q .normal a w) → ∀ a, Is a n fr → wpListIn (Fw r) N P ops Q l a w
theorem Qb {id : Nat} {l : List Oper} (h : Rg r P n l.toArray l K fr w) : W r P n (.region id l.toArray false) K E R fr w := by
 intro N a ha
 exact wpIn_region_lit (h N _ (fun _ _ _ h1 h2 => ⟨_, h1, h2⟩) a ha)
theorem Qc {ops : Array Oper} (h : K fr w) : Rg r P n ops [] K fr w := fun _ _ hq _ ha => wpListIn_nil (hq _ _ _ ha h)
theorem ZX {ops : Array Oper} {d : Option Nat} {op : Op} {ty : TypeId} {pos : String} {af : Array Edge} {rest : List Oper} {v : Value} {w' : World} (hd : dstOk n d = true)
  (h : (execOp (ev fr) ⟨d, op, ty, pos, af, none⟩).run P w = .ok (.value v) w') (hk : Rg r P n ops rest K (fr.put d v) w') : Rg r P n ops (⟨d, op, ty, pos, af, none⟩ :: rest) K fr w := by
 intro N Q hq a ha
 refine wpListIn_plain rfl fun K' hK' => ?_
 unfold Oper.wpIn
 rw [ev_eq ha]
 refine ⟨fun _ _ => trivial, ?_⟩
 rw [show (Fw r).round = r from rfl, Z4 h (fun _ e => by cases e)]
 exact hK' _ _ (hk N Q hq _ (J4 ha hd v))
theorem Rr {ops : Array Oper} {d : Option Nat} {op : Op} {ty : TypeId} {pos : String} {af : Array Edge} {rest : List Oper} {v : Value} {w' : World}
  (h : (execOp (ev fr) ⟨d, op, ty, pos, af, none⟩).run P w = .ok (.value v) w') (hk : Rg r P n ops rest K (fr.put d v) w') (hd : dstOk n d = true := by rfl) : Rg r P n ops (⟨d, op, ty, pos, af, none⟩ :: rest) K fr w := ZX hd h hk
theorem Rg_skip {ops : Array Oper} {d : Option Nat} {op : Op} {ty : TypeId} {pos : String} {af : Array Edge} {rest : List Oper} {w' : World} (hd : dstOk n d = true)
  (h : (execOp (ev fr) ⟨d, op, ty, pos, af, none⟩).run P w = .ok .skip w') (hk : Rg r P n ops rest K (fr.put d undef) w') : Rg r P n ops (⟨d, op, ty, pos, af, none⟩ :: rest) K fr w := by
 intro N Q hq a ha
 refine wpListIn_plain rfl fun K' hK' => ?_
 unfold Oper.wpIn
 rw [ev_eq ha]
 refine ⟨fun _ _ => trivial, ?_⟩
 rw [show (Fw r).round = r from rfl, Z4 h (fun _ e => by cases e)]
 exact hK' _ _ (hk N Q hq _ (J4 ha hd undef))
def Ok (P : Program) (f : FuncId) (args : Array Value) (w : World) (S : Value → World → Prop) : Prop :=
 Calls P f args w fun e w' => ∃ v, e = .returned v ∧ S v w'
theorem Ok.mono {f : FuncId} {args : Array Value} {S S' : Value → World → Prop} (h : Ok P f args w S) (hs : ∀ v w', S v w' → S' v w') : Ok P f args w S' :=
 Calls.mono h fun _ _ ⟨v, h1, h2⟩ => ⟨v, h1, hs _ _ h2⟩
theorem Qo {ops : Array Oper} {d : Option Nat} {op : Op} {ty : TypeId} {pos : String} {af : Array Edge} {rest : List Oper} {f : FuncId} {args : Array Value} {w0 : World} (hd : dstOk n d = true)
  (h : (execOp (ev fr) ⟨d, op, ty, pos, af, none⟩).run P w = .ok (.enter f args) w0) (hk : Ok P f args w0 fun v w' => Rg r P n ops rest K (fr.put d v) w') : Rg r P n ops (⟨d, op, ty, pos, af, none⟩ :: rest) K fr w := by
 intro N Q hq a ha
 refine wpListIn_plain rfl fun K' hK' => ?_
 unfold Oper.wpIn
 rw [ev_eq ha]
 refine ⟨fun _ _ => trivial, ?_⟩
 rw [show (Fw r).round = r from rfl, Z4 h (fun _ e => by cases e)]
 refine ⟨fun e => (by cases e), J5 (Calls.mono hk ?_)⟩
 rintro e w' ⟨v, rfl, hv⟩
 exact hK' _ _ (hv N Q hq _ (J4 ha hd v))
theorem yielded_of {ops : Array Oper} {a : Act} {i g : Nat} {b : Bool} (ha : Is a n fr) (hi : (ops[i]?).bind (·.dst) = some g) (hb : fr g = .bool b) : yielded ops a.tmps i = some b := by
 unfold yielded
 have h1 : a.tmps.getD g undef = .bool b := by rw [← hb, ← ha.fr]; rfl
 have h2 : a.tmps[g]? = some (.bool b) := by
  rw [Array.getD_eq_getD_getElem?] at h1
  cases hx : a.tmps[g]? with
  | none => rw [hx] at h1; simp [undef] at h1
  | some y => rw [hx] at h1; simpa using h1
 simp [hi, h2]
theorem ZD {ops : Array Oper} {o : Oper} {rest : List Oper} {b c : Bool} (i g : Nat) (hg : o.guard = some (i, b)) (hi : (ops[i]?).bind (·.dst) = some g) (hc : fr g = .bool c) (hne : (c == b) = false) (hd : dstOk n o.dst = true) (hk : Rg r P n ops rest K (fr.put o.dst undef) w) : Rg r P n ops (o :: rest) K fr w := by
 intro N Q hq a ha
 refine wpListIn_step fun K' hK' => ?_
 have hw : Region.wanted o (yielded ops a.tmps) = false := by
  simp only [Region.wanted, hg, yielded_of ha hi hc]
  cases c <;> cases b <;> simp_all
 rw [hw]
 exact ⟨fun _ _ => trivial, hK' _ _ (hk N Q hq _ (J4 ha hd undef))⟩
theorem QA {ops : Array Oper} {d : Option Nat} {op : Op} {ty : TypeId} {pos : String} {after : Array Edge} {rest : List Oper} {b : Bool} (i g : Nat) (hi : (ops[i]?).bind (·.dst) = some g) (hc : fr g = .bool b) (hk : Rg r P n ops (⟨d, op, ty, pos, after, none⟩ :: rest) K fr w) : Rg r P n ops (⟨d, op, ty, pos, after, some (i, b)⟩ :: rest) K fr w := by
 intro N Q hq a ha
 have := hk N Q hq a ha
 unfold wpListIn at this ⊢
 have hw : Region.wanted (⟨d, op, ty, pos, after, some (i, b)⟩ : Oper) (yielded ops a.tmps) = true := by
  simp only [Region.wanted, yielded_of ha hi hc]
  simp
 have hw' : Region.wanted (⟨d, op, ty, pos, after, none⟩ : Oper) (yielded ops a.tmps) = true := rfl
 rw [hw'] at this
 rw [hw]
 exact this
theorem Rg_split {ops : Array Oper} {l : List Oper} {c : Bool} (g : Nat) (_hc : fr g = .bool c) (ht : c = true → Rg r P n ops l K fr w) (hf : c = false → Rg r P n ops l K fr w) : Rg r P n ops l K fr w := by
 cases c with
 | true => exact ht rfl
 | false => exact hf rfl
theorem Qs {ops : Array Oper} {d : Option Nat} {op : Op} {ty : TypeId} {pos : String} {after : Array Edge} {rest : List Oper} {v : Value} {b c : Bool} (i g : Nat) (hi : (ops[i]?).bind (·.dst) = some g) (hc : fr g = .bool c) (hd : dstOk n d = true) (h : (c == b) = true → (execOp (ev fr) ⟨d, op, ty, pos, after, none⟩).run P w = .ok (.value v) w) (hk : Rg r P n ops rest K (fr.put d (bif c == b then v else undef)) w) : Rg r P n ops (⟨d, op, ty, pos, after, some (i, b)⟩ :: rest) K fr w := by
 cases hcb : (c == b) with
 | true =>
  have : c = b := by simpa using hcb
  subst this
  refine QA i g hi hc (ZX hd (h hcb) ?_)
  rw [hcb] at hk
  exact hk
 | false =>
  rw [hcb] at hk
  exact ZD i g rfl hi hc hcb hd hk
end
/-! ### A function's body -/
def argFr (args : List Value) : Fr := ⟨fun j => (args[j]?).getD undef, []⟩
def Res (L : List Deferred) (P : Program) (fn : Func) (n : Nat) (fr : Fr) (w : World) (v : Value) : Prop := fr.ds = L ∧ ∀ a, Is a n fr → (results fn a.tmps).run P w = .ok v w
def mkD (b : Nat) : Deferred := { target := .collected b, args := #[] }
def shut (w : World) : List Nat → World
 | [] => w
 | b :: r => shut (w.putObj b (.deferred none)) r
def Mks (w : World) : List Nat → Prop
 | [] => True
 | b :: r => b ∉ r ∧ w.heap[b]? = some (.deferred (some [])) ∧ Mks w r
theorem Mks.keep {w w' : World} : ∀ {l : List Nat}, (∀ b, b ∈ l → w'.heap[b]? = w.heap[b]?) → Mks w l → Mks w' l
 | [], _, _ => trivial
 | b :: r, h, k => ⟨k.1, (h b (by simp)).trans k.2.1, Mks.keep (fun c hc => h c (by simp [hc])) k.2.2⟩
theorem argIs {args : Array Value} {n : Nat} (hle : args.size ≤ n) : Is { tmps := args ++ Array.replicate (n - args.size) undef, defers := [] } n (argFr args.toList) := by
 refine ⟨by simp; omega, Fr.ext' (fun i => ?_) rfl⟩
 simp only [frOf, argFr, Array.getD_eq_getD_getElem?, Array.getElem?_append]
 by_cases hi : i < args.size
 ·simp [hi]
 ·simp only [hi, if_false, Array.getElem?_replicate]
  have : args.toList[i]? = none := by simp; omega
  rw [this]
  split <;> rfl
theorem leaves_mks {P : Program} {N : Nat} {fn : Func} {tmps : Array Value} {S : Value → World → Prop} {v : Value} : ∀ {L : List Nat} {w : World}, Mks w L → (results fn tmps).run P (shut w L) = .ok v (shut w L) → S v (shut w L) →
  LeavesInM (Fw none) N P fn tmps (fun e w' => ∃ v, e = .returned v ∧ S v w') (L.map mkD) .returning w
 | [], w, _, h, hs => ⟨v, h, v, rfl, hs⟩
 | b :: r, w, hm, h, hs => by
  refine ⟨by simp, .inl ⟨b, _, rfl, run_takeDeferred hm.2.1, leaves_mks (hm.2.2.keep fun c hc => ?_) h hs⟩⟩
  exact World.putObj_heap_other (fun e => hm.1 (e ▸ hc))
theorem Ok_of_WM {P : Program} {f : FuncId} {fn : Func} {c : Code} {args : Array Value} {w : World} {S : Value → World → Prop} (n : Nat)
  (hf : P.funcs[f]? = some fn) (hb : fn.body = some c) (hn : fn.ntmps = n) (ha : Nat.ble args.size n = true)
  (h : W none P n c (fun fr w => ∃ L v, Mks w L ∧ Res (L.map mkD) P fn n fr (shut w L) v ∧ S v (shut w L)) (fun _ _ _ => False) (fun fr w => ∃ L v, Mks w L ∧ Res (L.map mkD) P fn n fr (shut w L) v ∧ S v (shut w L)) (argFr args.toList) w) : Ok P f args w S := by
 have hle : args.size ≤ n := by simpa using ha
 refine (callsIn_wide (n := 0)).1 (callsIn_of_wp_marks (F := Fence.wide) hf hb trivial ?_)
 rw [hn]
 refine wpIn_mono (h 0 _ (argIs hle)) ?_
 have fin : ∀ (a : Act) (w : World), (∃ fr, Is a n fr ∧ ∃ L v, Mks w L ∧ Res (L.map mkD) P fn n fr (shut w L) v ∧ S v (shut w L)) → LeavesInM Fence.wide 0 P fn a.tmps (fun e w' => ∃ v, e = .returned v ∧ S v w') a.defers .returning w := by
  rintro a w ⟨fr, h1, L, v, hm, hr, hs⟩
  rw [h1.df, hr.1]
  exact leaves_mks hm (hr.2 a h1) hs
 intro e a w q
 cases e <;> simp only [post] at q
 ·exact fin a w q
 ·obtain ⟨fr, h1, h2⟩ := q; exact h2.elim
 ·exact fin a w q
theorem Qv {P : Program} {f : FuncId} {fn : Func} {c : Code} {args : Array Value} {w : World} {S : Value → World → Prop} (n : Nat)
  (hf : P.funcs[f]? = some fn) (hb : fn.body = some c) (hn : fn.ntmps = n) (ha : Nat.ble args.size n = true)
  (h : W none P n c (fun fr w => ∃ v, Res [] P fn n fr w v ∧ S v w) (fun _ _ _ => False) (fun fr w => ∃ v, Res [] P fn n fr w v ∧ S v w) (argFr args.toList) w) : Ok P f args w S :=
 Ok_of_WM n hf hb hn ha (h.mono (fun _ _ ⟨v, h1, h2⟩ => ⟨[], v, trivial, h1, h2⟩) (fun _ _ _ h => h) (fun _ _ ⟨v, h1, h2⟩ => ⟨[], v, trivial, h1, h2⟩))
theorem Qr {L : List Deferred} {fn : Func} {n t : Nat} {fr : Fr} {P : Program} {w : World} {v : Value} (h : fn.results = #[.tmp t]) (hv : fr t = v) (hd : fr.ds = L := by rfl) : Res L P fn n fr w v := by
 refine ⟨hd, fun a ha => ?_⟩
 rw [results_tmp h, ← hv, ← ha.fr]; rfl
theorem QT {L : List Deferred} {fn : Func} {n t u : Nat} {fr : Fr} {P : Program} {w : World} {v v' : Value} (h : fn.results = #[.tmp t, .tmp u]) (hv : fr t = v) (hv' : fr u = v') (hd : fr.ds = L := by rfl) : Res L P fn n fr w (.tuple #[v, v']) := by
 refine ⟨hd, fun a ha => ?_⟩
 rw [results_tmp2 h, ← hv, ← hv', ← ha.fr]; rfl
theorem YZ {L : List Deferred} {fn : Func} {n : Nat} {fr : Fr} {P : Program} {w : World} (h : fn.results = #[]) (hd : fr.ds = L := by rfl) : Res L P fn n fr w (.tuple #[]) := by
 refine ⟨hd, fun a ha => ?_⟩
 rw [results_none h]
end Go.Lx
/- The rules of single operations that leave the world alone: one equation each on an operation's run. Nothing of a program stands here. -/
namespace Go.Lx
open Go
def str (l : List UInt8) : Value := .string ⟨l.toArray⟩
theorem toList_mk (l : List UInt8) : (⟨l.toArray⟩ : ByteArray).toList = l := by simp
theorem J6 (l : List UInt8) : (⟨l.toArray⟩ : ByteArray).size = l.length := by simp [ByteArray.size]
def I64 (a : Int) : Prop := -9223372036854775808 ≤ a ∧ a ≤ 9223372036854775807
/- side goals, each by the words that served it everywhere -/
theorem omg {p : Prop} (h : p := by first | omega | (unfold I64; omega) | (simp; done) | (simp; omega) | (simp at *; omega)) : p := h
theorem om1 {p : Prop} (h : p := by intro h; omega) : p := h
theorem om2 {p : Prop} (h : p := by intro g h1 h2; first | exact h2 | omega) : p := h
theorem om3 {p : Prop} (h : p := by intro g h1 h2 h3; omega) : p := h
theorem omU {p : Prop} (h : p := by intro g h; omega) : p := h
theorem omC {p : Prop} (h : p := by intro g hg h; exact Classical.byContradiction fun hn => h (by (try simp only [not_or] at hn); simp [hn])) : p := h
theorem JM {a : Int} (h : I64 a) : IntKind.i64.wrap a = a := IntWalk.i64_in _ h
theorem ev_const (fr : Fr) (v : Value) : ev fr (.const v) = v := rfl
section
variable {P : Program} {fr : Fr} {w : World} {d : Option Nat} {t : TypeId} {ps : String} {af : Array Edge} {g : Option (Nat × Bool)} {x y z : Operand} {k : IntKind} {a b : Int} {T U : TypeId}
abbrev xop (P : Program) (fr : Fr) (w : World) (o : Oper) : Result Next := (execOp (ev fr) o).run P w
theorem QP {v : Value} : xop P fr w ⟨d, .move (.const v), t, ps, af, g⟩ = .ok (.value v) w := rfl
theorem Qj {v : Value} : xop P fr w ⟨d, .assign (.const v), t, ps, af, g⟩ = .ok (.value v) w := rfl
theorem QG {v : Value} (h : ev fr x = v) : xop P fr w ⟨d, .move x, t, ps, af, g⟩ = .ok (.value v) w := by subst h; rfl
theorem QL {v : Value} (h : ev fr x = v) : xop P fr w ⟨d, .assign x, t, ps, af, g⟩ = .ok (.value v) w := by subst h; rfl
theorem mvI {k : IntKind} {a : Int} (h : ev fr x = .int k a) : xop P fr w ⟨d, .move x, t, ps, af, g⟩ = .ok (.value (.int k a)) w := QG h
theorem asI {k : IntKind} {a : Int} (h : ev fr x = .int k a) : xop P fr w ⟨d, .assign x, t, ps, af, g⟩ = .ok (.value (.int k a)) w := QL h
theorem mvS {a : Option Addr} {m c : Nat} (h : ev fr x = .slice a m c) : xop P fr w ⟨d, .move x, t, ps, af, g⟩ = .ok (.value (.slice a m c)) w := QG h
theorem asS {a : Option Addr} {m c : Nat} (h : ev fr x = .slice a m c) : xop P fr w ⟨d, .assign x, t, ps, af, g⟩ = .ok (.value (.slice a m c)) w := QL h
theorem mvB {b : Bool} (h : ev fr x = .bool b) : xop P fr w ⟨d, .move x, t, ps, af, g⟩ = .ok (.value (.bool b)) w := QG h
theorem asB {b : Bool} (h : ev fr x = .bool b) : xop P fr w ⟨d, .assign x, t, ps, af, g⟩ = .ok (.value (.bool b)) w := QL h
theorem mvP {a : Option Addr} (h : ev fr x = .pointer a) : xop P fr w ⟨d, .move x, t, ps, af, g⟩ = .ok (.value (.pointer a)) w := QG h
theorem asP {a : Option Addr} (h : ev fr x = .pointer a) : xop P fr w ⟨d, .assign x, t, ps, af, g⟩ = .ok (.value (.pointer a)) w := QL h
theorem mvT {a : List UInt8} (h : ev fr x = str a) : xop P fr w ⟨d, .move x, t, ps, af, g⟩ = .ok (.value (str a)) w := QG h
theorem asT {a : List UInt8} (h : ev fr x = str a) : xop P fr w ⟨d, .assign x, t, ps, af, g⟩ = .ok (.value (str a)) w := QL h
theorem Q7 {v : Value} (h : ev fr z = .bool true) (hx : ev fr x = v) : xop P fr w ⟨d, .pick z x y, t, ps, af, g⟩ = .ok (.value v) w := by
 subst hx; simp [xop, execOp, h, asBool]
theorem Q0 {v : Value} (h : ev fr z = .bool false) (hy : ev fr y = v) : xop P fr w ⟨d, .pick z x y, t, ps, af, g⟩ = .ok (.value v) w := by
 subst hy; simp [xop, execOp, h, asBool]
theorem Zt {c v : Bool} {u : Value} (h : ev fr z = .bool c) (hx : ev fr x = (bif c == true then .bool v else u)) : xop P fr w ⟨d, .pick z x (.const (.bool false)), t, ps, af, g⟩ = .ok (.value (.bool (c && v))) w := by
 cases c <;> simp [xop, execOp, h, asBool, ev_const, hx]
theorem ZS {c v : Bool} {u : Value} (h : ev fr z = .bool c) (hx : ev fr x = (bif c == false then .bool v else u)) : xop P fr w ⟨d, .pick z (.const (.bool true)) x, t, ps, af, g⟩ = .ok (.value (.bool (c || v))) w := by
 cases c <;> simp [xop, execOp, h, asBool, ev_const, hx]
theorem Zp {c : Bool} (h : ev fr x = .bool c) : xop P fr w ⟨d, .unOp .not T x, t, ps, af, g⟩ = .ok (.value (.bool (!c))) w := by
 simp [xop, execOp, h, Op.unary]
theorem QO (hx : ev fr x = .int .i64 a) (hy : ev fr y = .int .i64 b) (hr : I64 (a + b)) : xop P fr w ⟨d, .binOp .add T x y U, t, ps, af, g⟩ = .ok (.value (.int .i64 (a + b))) w := by
 have e := JM hr
 simp [xop, execOp, hx, hy, eqGuard, binOp, Op.intArith, e]
theorem Yh (hx : ev fr x = .int .i64 a) (hy : ev fr y = .int .i64 b) (hr : I64 (a - b)) : xop P fr w ⟨d, .binOp .sub T x y U, t, ps, af, g⟩ = .ok (.value (.int .i64 (a - b))) w := by
 have e := JM hr
 simp [xop, execOp, hx, hy, eqGuard, binOp, Op.intArith, e]
theorem o_mul (hx : ev fr x = .int .i64 a) (hy : ev fr y = .int .i64 b) (hr : I64 (a * b)) : xop P fr w ⟨d, .binOp .mul T x y U, t, ps, af, g⟩ = .ok (.value (.int .i64 (a * b))) w := by
 have e := JM hr
 simp [xop, execOp, hx, hy, eqGuard, binOp, Op.intArith, e]
theorem QM (hx : ev fr x = .int k a) (hy : ev fr y = .int k b) : xop P fr w ⟨d, .binOp .lss T x y U, t, ps, af, g⟩ = .ok (.value (.bool (decide (a < b)))) w := by
 simp [xop, execOp, hx, hy, eqGuard, binOp, Op.intCmp]
theorem Jk (hx : ev fr x = .int k a) (hy : ev fr y = .int k b) : xop P fr w ⟨d, .binOp .leq T x y U, t, ps, af, g⟩ = .ok (.value (.bool (decide (a ≤ b)))) w := by
 simp [xop, execOp, hx, hy, eqGuard, binOp, Op.intCmp]
theorem ZM (hx : ev fr x = .int k a) (hy : ev fr y = .int k b) : xop P fr w ⟨d, .binOp .gtr T x y U, t, ps, af, g⟩ = .ok (.value (.bool (decide (b < a)))) w := by
 simp [xop, execOp, hx, hy, eqGuard, binOp, Op.intCmp]
theorem ZU (hx : ev fr x = .int k a) (hy : ev fr y = .int k b) : xop P fr w ⟨d, .binOp .geq T x y U, t, ps, af, g⟩ = .ok (.value (.bool (decide (b ≤ a)))) w := by
 simp [xop, execOp, hx, hy, eqGuard, binOp, Op.intCmp]
theorem Zu (hx : ev fr x = .int k a) (hy : ev fr y = .int k b) : xop P fr w ⟨d, .binOp .eql T x y U, t, ps, af, g⟩ = .ok (.value (.bool (a == b))) w := by
 simp [xop, execOp, hx, hy, eqGuard, binOp, Op.intCmp]
theorem Zv (hx : ev fr x = .int k a) (hy : ev fr y = .int k b) : xop P fr w ⟨d, .binOp .neq T x y U, t, ps, af, g⟩ = .ok (.value (.bool (a != b))) w := by
 simp [xop, execOp, hx, hy, eqGuard, binOp, Op.intCmp]
theorem o_rem (hx : ev fr x = .int .i64 a) (hy : ev fr y = .int .i64 b) (ha : 0 ≤ a) (hb : 0 < b) (hr : I64 a) : xop P fr w ⟨d, .binOp .rem T x y U, t, ps, af, g⟩ = .ok (.value (.int .i64 (a % b))) w := by
 have h0 : b ≠ 0 := by omega
 have e2 : a.tmod b = a % b := Int.tmod_eq_emod_of_nonneg ha
 have h3 : a % b ≤ a := by rw [Int.emod_def]; have := Int.mul_nonneg (Int.le_of_lt hb) (Int.ediv_nonneg ha (Int.le_of_lt hb)); omega
 have e1 : IntKind.i64.wrap (a % b) = a % b := JM ⟨by have := Int.emod_nonneg a h0; omega, by have := hr.2; omega⟩
 simp [xop, execOp, hx, hy, eqGuard, binOp, Op.intDiv, h0, e2, e1]
theorem o_quo (hx : ev fr x = .int .i64 a) (hy : ev fr y = .int .i64 b) (ha : 0 ≤ a) (hb : 0 < b) (hr : I64 a) : xop P fr w ⟨d, .binOp .quo T x y U, t, ps, af, g⟩ = .ok (.value (.int .i64 (a / b))) w := by
 have h0 : b ≠ 0 := by omega
 have e2 : a.tdiv b = a / b := Int.tdiv_eq_ediv_of_nonneg ha
 have h3 : a / b ≤ a := Int.ediv_le_self b ha
 have h4 : 0 ≤ a / b := Int.ediv_nonneg ha (by omega)
 have e1 : IntKind.i64.wrap (a / b) = a / b := JM ⟨by omega, by have := hr.2; omega⟩
 simp [xop, execOp, hx, hy, eqGuard, binOp, Op.intDiv, h0, e2, e1]
theorem o_beql {p q : Bool} (hP : P.underlying T = some .bool) (hx : ev fr x = .bool p) (hy : ev fr y = .bool q) : xop P fr w ⟨d, .binOp .eql T x y U, t, ps, af, g⟩ = .ok (.value (.bool (p == q))) w := by
 simp [xop, execOp, hx, hy, eqGuard, run_eql_bool w T p q hP]
theorem o_bneq {p q : Bool} (hP : P.underlying T = some .bool) (hx : ev fr x = .bool p) (hy : ev fr y = .bool q) : xop P fr w ⟨d, .binOp .neq T x y U, t, ps, af, g⟩ = .ok (.value (.bool (!(p == q)))) w := by
 have e : (binOp .neq T (.bool p) (.bool q)).run P w = .ok (.bool (!(p == q))) w := by
  simp only [binOp]
  simp [run_equal_bool w T p q hP]
 simp [xop, execOp, hx, hy, eqGuard, e]
variable {l m : List UInt8}
theorem o_sadd (hx : ev fr x = str l) (hy : ev fr y = str m) (h : ((l.length + m.length : Nat) : Int) ≤ 9223372036854775807) : xop P fr w ⟨d, .binOp .add T x y U, t, ps, af, g⟩ = .ok (.value (str (l ++ m))) w := by
 have e : (⟨l.toArray⟩ ++ ⟨m.toArray⟩ : ByteArray) = ⟨(l ++ m).toArray⟩ := by
  apply ByteArray.ext; simp
 have h2 : ¬ ((9223372036854775807 : Int) < (l.length : Int) + (m.length : Int)) := by omega
 have hmx : IntKind.i64.max = 9223372036854775807 := by decide
 simp [xop, execOp, hx, hy, str, eqGuard, binOp, Op.stringOp, J6, e, hmx, h2]
theorem Z9 (hx : ev fr x = str l) (hy : ev fr y = str m) : xop P fr w ⟨d, .binOp .eql T x y U, t, ps, af, g⟩ = .ok (.value (.bool (l == m))) w := by
 simp [xop, execOp, hx, hy, str, eqGuard, binOp, Op.stringOp]
theorem o_sneq (hx : ev fr x = str l) (hy : ev fr y = str m) : xop P fr w ⟨d, .binOp .neq T x y U, t, ps, af, g⟩ = .ok (.value (.bool (!(l == m)))) w := by
 simp [xop, execOp, hx, hy, str, eqGuard, binOp, Op.stringOp]
theorem o_slss (hx : ev fr x = str l) (hy : ev fr y = str m) : xop P fr w ⟨d, .binOp .lss T x y U, t, ps, af, g⟩ = .ok (.value (.bool (Op.bytesLess l m))) w := by
 simp [xop, execOp, hx, hy, str, eqGuard, binOp, Op.stringOp]
theorem o_sgtr (hx : ev fr x = str l) (hy : ev fr y = str m) : xop P fr w ⟨d, .binOp .gtr T x y U, t, ps, af, g⟩ = .ok (.value (.bool (!(Op.bytesLess l m || l == m)))) w := by
 simp [xop, execOp, hx, hy, str, eqGuard, binOp, Op.stringOp]
theorem ZW (hP : P.underlying T = some .string) (hx : ev fr x = str l) : xop P fr w ⟨d, .call { callee := .builtin .len, args := #[x], argTypes := #[T] }, t, ps, af, g⟩ = .ok (.value (.int .i64 (l.length : Int))) w := by
 simp [xop, execOp, resolve, invoke, builtin, hx, str, run_len_string (h := hP), goInt, J6]
theorem QC {e : TypeId} {p : Option Addr} {n c : Nat} (hP : P.underlying T = some (.slice e)) (hx : ev fr x = .slice p n c) : xop P fr w ⟨d, .call { callee := .builtin .len, args := #[x], argTypes := #[T] }, t, ps, af, g⟩ = .ok (.value (.int .i64 (n : Int))) w := by
 have h : (Builtin.len_ #[T] t #[.slice p n c]).run P w = .ok (goInt n) w := by simp [Builtin.len_, run_underlying hP]
 simp [xop, execOp, resolve, invoke, builtin, hx, h, goInt]
theorem Jl {i : Nat} (hP : P.underlying T = some .string) (hx : ev fr x = str l) (hy : ev fr y = .int k (i : Int)) (h : i < l.length) : xop P fr w ⟨d, .index T x y, t, ps, af, g⟩ = .ok (.value (.int .u8 ((l.getD i 0).toNat : Int))) w := by
 have hs : (0 : Int) ≤ (i : Int) ∧ (i : Int) < (⟨l.toArray⟩ : ByteArray).size := ⟨by omega, by rw [J6]; omega⟩
 have e := run_index_string w T ⟨l.toArray⟩ k i hP
 rw [dif_pos hs] at e
 have e2 : (⟨l.toArray⟩ : ByteArray)[(i : Int).toNat]'(by rw [J6]; omega) = l.getD i 0 := by
  simp only [Int.toNat_natCast]
  simp [List.getD, h]
  rfl
 simp only [xop, execOp, hx, hy, str, Sem.run_bind, e, e2]
 simp
theorem o_sslice {i j : Nat} (hP : P.underlying T = some .string) (hx : ev fr x = str l) (hi : ev fr y = .int .i64 (i : Int)) (hj : ev fr z = .int .i64 (j : Int)) (h : i ≤ j) (hl : j ≤ l.length) :
  xop P fr w ⟨d, .slice T x (some y) (some z) none, t, ps, af, g⟩ = .ok (.value (str ((l.take j).drop i))) w := by
 have e : (⟨l.toArray⟩ : ByteArray).extract i j = ⟨((l.take j).drop i).toArray⟩ := by
  apply ByteArray.ext; simp [ByteArray.data_extract]; rw [List.drop_take]
 have hi' : (i : Int) ≤ j := by omega
 have hj' : (j : Int) ≤ l.length := by omega
 have h2 : i ≤ l.length := by omega
 simp [xop, execOp, hx, hi, hj, str, Instr.slice, Instr.sliceAt, Instr.sliceBounds, Instr.sliceBound, asIntOf, run_underlying hP, J6, e, hl, h]
theorem o_sfrom {i : Nat} (hP : P.underlying T = some .string) (hx : ev fr x = str l) (hi : ev fr y = .int .i64 (i : Int)) (h : i ≤ l.length) :
  xop P fr w ⟨d, .slice T x (some y) none none, t, ps, af, g⟩ = .ok (.value (str (l.drop i))) w := by
 have e : (⟨l.toArray⟩ : ByteArray).extract i l.length = ⟨(l.drop i).toArray⟩ := by
  apply ByteArray.ext; simp [ByteArray.data_extract]; rw [List.take_of_length_le (by simp)]
 simp [xop, execOp, hx, hi, str, Instr.slice, Instr.sliceAt, Instr.sliceBounds, Instr.sliceBound, asIntOf, run_underlying hP, J6, e, h]
theorem o_sto {j : Nat} (hP : P.underlying T = some .string) (hx : ev fr x = str l) (hj : ev fr z = .int .i64 (j : Int)) (hl : j ≤ l.length) :
  xop P fr w ⟨d, .slice T x none (some z) none, t, ps, af, g⟩ = .ok (.value (str (l.take j))) w := by
 have e : (⟨l.toArray⟩ : ByteArray).extract 0 j = ⟨(l.take j).toArray⟩ := by
  apply ByteArray.ext; simp [ByteArray.data_extract]
 simp [xop, execOp, hx, hj, str, Instr.slice, Instr.sliceAt, Instr.sliceBounds, Instr.sliceBound, asIntOf, run_underlying hP, J6, e, hl]
theorem QE {vs : Array Value} {i : Nat} {v : Value} (hx : ev fr x = .tuple vs) (hv : vs[i]? = some v) : xop P fr w ⟨d, .extract x i, t, ps, af, g⟩ = .ok (.value v) w := by
 simp [xop, execOp, hx, Instr.extract, hv]
theorem o_conv {k' : IntKind} (hP : P.underlying T = some (.int k)) (hP' : P.underlying U = some (.int k')) (hx : ev fr x = .int k a) : xop P fr w ⟨d, .convert T U x, t, ps, af, g⟩ = .ok (.value (.int k' (k'.wrap a))) w := by
 simp [xop, execOp, hx, convert, run_underlying hP, run_underlying hP', Conv.intToInt]
theorem o_fn1 {F : Fn} {p : Option Addr} (hx : ev fr x = .pointer p) : xop P fr w ⟨d, .makeFunc F #[] #[x], t, ps, af, g⟩ = .ok (.value (.func F #[] #[.pointer p])) w := by simp [xop, execOp, Instr.makeFunc, hx]
end
end Go.Lx
/- Memory: what a block holds, how a world goes on, and the operations that read and write cells. Nothing of a program stands here. -/
namespace Go.Lx
open Go Go.RowKit
structure Bel (β : Prop) (D : Nat → Prop) (w w' : World) : Prop where
 os : w'.os = w.os
 tape : w'.tape = w.tape
 output : w'.output = w.output
 size : w.heap.size ≤ w'.heap.size
 block : ∀ b, b < w.heap.size → ¬ D b → w'.heap[b]? = w.heap[b]?
 drawn : β → w.drawn ≤ w'.drawn
abbrev NoB : Nat → Prop := fun _ => False
abbrev Lt (n : Nat) : Nat → Prop := fun b => b < n
abbrev Ge (n : Nat) : Nat → Prop := fun b => n ≤ b
abbrev Rng (m n : Nat) : Nat → Prop := fun b => m ≤ b ∧ b < n
abbrev Fsh (w w' : World) : Nat → Prop := Rng w.heap.size w'.heap.size
abbrev Ext (β : Prop) (w w' : World) : Prop := Bel β NoB w w'
theorem Bel.refl {β : Prop} (D : Nat → Prop) (w : World) : Bel β D w w := ⟨rfl, rfl, rfl, Nat.le_refl _, fun _ _ _ => rfl, fun _ => Nat.le_refl _⟩
theorem Bel.mono {β : Prop} {D D' : Nat → Prop} {w w' : World} (h : Bel β D w w') (hD : ∀ b, b < w.heap.size → D b → D' b) : Bel β D' w w' :=
 ⟨h.os, h.tape, h.output, h.size, fun b hb hn => h.block b hb fun x => hn (hD b hb x), h.drawn⟩
theorem Bel.weak {β : Prop} {D : Nat → Prop} {w w' : World} (h : Bel β D w w') : Bel False D w w' := ⟨h.os, h.tape, h.output, h.size, h.block, False.elim⟩
theorem Bel.tr {β γ : Prop} {D D1 D2 : Nat → Prop} {a b c : World} (h : Bel β D1 a b) (k : Bel γ D2 b c) (h1 : ∀ g, g < a.heap.size → D1 g → D g) (h2 : ∀ g, g < a.heap.size → D2 g → D g) (hg : β → γ := by first | exact fun h => h | exact fun _ => trivial | exact False.elim) : Bel β D a c :=
 ⟨k.os.trans h.os, k.tape.trans h.tape, k.output.trans h.output, Nat.le_trans h.size k.size, fun g hb hn =>
  (k.block g (Nat.lt_of_lt_of_le hb h.size) fun x => hn (h2 g hb x)).trans (h.block g hb fun x => hn (h1 g hb x)), fun x => Nat.le_trans (h.drawn x) (k.drawn (hg x))⟩
theorem Bel.ex {β γ : Prop} {D : Nat → Prop} {a b c : World} (h : Bel β D a b) (k : Ext γ b c) (hg : β → γ := by first | exact fun h => h | exact fun _ => trivial | exact False.elim) : Bel β D a c := h.tr k (fun _ _ x => x) (fun _ _ x => x.elim) hg
theorem Bel.same {β γ : Prop} {D : Nat → Prop} {a b c : World} (h : Bel β D a b) (k : Bel γ D b c) (hg : β → γ := by first | exact fun h => h | exact fun _ => trivial | exact False.elim) : Bel β D a c := h.tr k (fun _ _ x => x) (fun _ _ x => x) hg
theorem Bel.out {β γ : Prop} {D D' : Nat → Prop} {a b c : World} (h : Bel β D a b) (k : Bel γ D' b c) (hd : ∀ g, g < a.heap.size → D' g → D g) (hg : β → γ := by first | exact fun h => h | exact fun _ => trivial | exact False.elim) : Bel β D a c := h.tr k (fun _ _ x => x) hd hg
theorem Ext.rfl' {β : Prop} (w : World) : Ext β w w := Bel.refl _ _
theorem Ext.tr {β γ : Prop} {a b c : World} (h : Ext β a b) (k : Ext γ b c) (hg : β → γ := by first | exact fun h => h | exact fun _ => trivial | exact False.elim) : Ext β a c := Bel.ex h k hg
theorem Bel.below {β : Prop} {D : Nat → Prop} {B : Nat} {w w' : World} (h : Bel β D w w') (hB : ∀ b, b < B → b < w.heap.size ∧ ¬ D b) : Below B w w' :=
 ⟨h.os, h.tape, h.output, h.size, fun k hk => h.block k (hB k hk).1 (hB k hk).2⟩
theorem Ext.below {β : Prop} {w w' : World} (h : Ext β w w') : Below w.heap.size w w' := Bel.below h fun _ hb => ⟨hb, id⟩
theorem Ext.alloc {β : Prop} (w : World) (o : Obj) : Ext β w (w.alloc o) := ⟨rfl, rfl, rfl, by simp, fun b hb _ => heap_alloc_old w _ hb, fun _ => Nat.le_refl _⟩
theorem Ext.drew {β : Prop} (w : World) : Ext β w w.drew := ⟨rfl, rfl, rfl, Nat.le_refl _, fun _ _ _ => rfl, fun _ => Nat.le_succ _⟩
def At (w : World) (b off : Nat) (cs : List Value) : Prop := ∀ i v, cs[i]? = some v → w.cell? ⟨b, off + i, none⟩ = some v
theorem At.lt {w : World} {b off : Nat} {c : Value} {cs : List Value} (h : At w b off (c :: cs)) : b < w.heap.size :=
 World.block_lt_of_cell? w ⟨b, off + 0, none⟩ (h 0 c rfl)
theorem At.blk {w w' : World} {b off : Nat} {cs : List Value} (h : At w b off cs) (hb : w'.heap[b]? = w.heap[b]?) : At w' b off cs :=
 fun i v hi => by rw [World.cell?_of_block (w := w) (a := ⟨b, off + i, none⟩) hb]; exact h i v hi
theorem At.keep {γ : Prop} {D : Nat → Prop} {w w' : World} {b off : Nat} {cs : List Value} (h : At w b off cs) (x : Bel γ D w w') (hd : ¬ D b) : At w' b off cs := by
 cases cs with
 | nil => intro i v hi; simp at hi
 | cons c cs => exact h.blk (x.block b h.lt hd)
theorem At.ext {γ : Prop} {w w' : World} {b off : Nat} {cs : List Value} (h : At w b off cs) (x : Ext γ w w') : At w' b off cs := h.keep x id
theorem At.alloc (w : World) (cs : Array Value) (T : TypeId) (fz : Nat × Nat) : At (w.alloc (.cells cs T fz)) w.heap.size 0 cs.toList := by
 intro i v hi
 rw [Nat.zero_add]
 simp only [World.cell?, World.alloc, Array.getElem?_push_size]
 simpa using hi
theorem At.get {w : World} {b off : Nat} {cs : List Value} {v : Value} (h : At w b off cs) (i : Nat) (hi : cs[i]? = some v) : w.cell? ⟨b, off + i, none⟩ = some v := h i v hi
theorem At.sub {w : World} {b off : Nat} {cs : List Value} (h : At w b off cs) (i k : Nat) : At w b (off + i) ((cs.drop i).take k) := by
 intro j v hj
 have h1 : cs[i + j]? = some v := by
  rw [List.getElem?_take] at hj
  split at hj
  ·rw [List.getElem?_drop] at hj; exact hj
  ·cases hj
 have := h (i + j) v h1
 rwa [show off + (i + j) = off + i + j from by omega] at this
section
variable {P : Program} {fr : Fr} {w : World} {d : Option Nat} {t : TypeId} {ps : String} {af : Array Edge} {g : Option (Nat × Bool)} {x y z : Operand} {k : IntKind} {T U : TypeId} {b off : Nat}
theorem Qm {v : Value} (ha : ∀ w, (isAgg T).run P w = .ok false w) (hx : ev fr x = .pointer (some ⟨b, off, none⟩)) (h : w.cell? ⟨b, off, none⟩ = some v) : xop P fr w ⟨d, .load T x, t, ps, af, g⟩ = .ok (.value v) w := by
 simp [xop, execOp, hx, Instr.loadAt, Instr.sureAddr, loadVar, ha, load, Sem.run, h]
theorem Y0 (a : Addr) (cs : List Value) : ∀ (n i : Nat) (acc : Array Value), n + i = cs.length → (∀ j v, cs[j]? = some v → w.cell? (a.add j) = some v) →
  (loadCellsFrom a i n acc).run P w = .ok (acc ++ (cs.drop i).toArray) w := by
 intro n
 induction n with
 | zero =>
  intro i acc hn h
  simp [loadCellsFrom, List.drop_eq_nil_of_le (by omega : cs.length ≤ i)]
 | succ n ih =>
  intro i acc hn h
  have hi : i < cs.length := by omega
  have hc := h i cs[i] (List.getElem?_eq_getElem hi)
  have hl : (load (a.add i)).run P w = .ok cs[i] w := by simp [load, Sem.run, hc]
  rw [loadCellsFrom]
  simp only [Sem.run_bind, hl, Result.andThen_ok]
  rw [ih (i + 1) _ (by omega) h, List.drop_eq_getElem_cons hi]
  simp
theorem run_loadAgg {n : Nat} {cs : List Value} (hn : cs.length = n) (h : At w b off cs) : (loadCells ⟨b, off, none⟩ n).run P w = .ok cs.toArray w := by
 unfold loadCells
 rw [Y0 (P := P) (w := w) ⟨b, off, none⟩ cs n 0 #[] (by omega)]
 ·simp
 ·intro j v hj
  have := h j v hj
  unfold Addr.add
  by_cases hz : j = 0
  ·subst hz; simpa using this
  ·rw [if_neg hz]; exact this
theorem QF {n : Nat} {cs : List Value} (ha : ∀ w, (isAgg T).run P w = .ok true w) (hs : ∀ w, (sizeOf T).run P w = .ok n w) (hx : ev fr x = .pointer (some ⟨b, off, none⟩)) (h : At w b off cs) (hn : cs.length = n) :
  xop P fr w ⟨d, .load T x, t, ps, af, g⟩ = .ok (.value (.agg cs.toArray)) w := by
 simp [xop, execOp, hx, Instr.loadAt, Instr.sureAddr, loadVar, ha, hs, run_loadAgg hn h]
theorem QX {v : Value} (hx : ev fr x = v) : xop P fr w ⟨d, .box T x, t, ps, af, g⟩ = .ok (.value (.pointer (some ⟨w.heap.size, 0, none⟩))) (w.alloc (.cells v.cells T)) := by
 simp [xop, execOp, hx, Instr.box, newVar, newRow, newObj, Sem.run]
theorem Q4 {v : Value} (hz : ∀ w, (zeroValue T).run P w = .ok v w) : xop P fr w ⟨d, .alloc T, t, ps, af, g⟩ = .ok (.value (.pointer (some ⟨w.heap.size, 0, none⟩))) (w.alloc (.cells v.cells T)) := by
 simp [xop, execOp, Instr.alloc, hz, newVar, newRow, newObj, Sem.run]
theorem Qy {fs : Array Field} {f n : Nat} {F : Field} (hP : P.underlying T = some (.struct fs)) (hf : fs[f]? = some F) (hs : ∀ w, (sizeOf F.type).run P w = .ok (n + 1) w) (hx : ev fr x = .pointer (some ⟨b, off, none⟩)) :
  xop P fr w ⟨d, .fieldAddr T x f, t, ps, af, g⟩ = .ok (.value (.pointer (some ⟨b, off + F.offset, none⟩))) w := by
 have e : (⟨b, off, none⟩ : Addr).add F.offset = ⟨b, off + F.offset, none⟩ := by
  unfold Addr.add
  by_cases h : F.offset = 0
  ·rw [if_pos h, h]; rfl
  ·rw [if_neg h]
 simp [xop, execOp, hx, Instr.fieldAt, Instr.sureAddr, run_underlying hP, hf, fieldPlace, hs, e]
theorem o_ia {e : TypeId} {n c i s : Nat} (hP : P.underlying T = some (.slice e)) (hs : ∀ w, (sizeOf e).run P w = .ok s w) (hx : ev fr x = .slice (some ⟨b, off, none⟩) n c) (hy : ev fr y = .int k (i : Int)) (hi : i < n) :
  xop P fr w ⟨d, .indexAddr T x y, t, ps, af, g⟩ = .ok (.value (.pointer (some ⟨b, off + i * s, none⟩))) w := by
 have e1 : (⟨b, off, none⟩ : Addr).add (i * s) = ⟨b, off + i * s, none⟩ := by
  unfold Addr.add
  by_cases h : i * s = 0
  ·rw [if_pos h, h]; rfl
  ·rw [if_neg h]
 have hi' : (i : Int) < n := by omega
 simp [xop, execOp, hx, hy, Instr.indexAt, asIntOf, run_underlying hP, hs, e1, hi]
end
end Go.Lx
/- Calls: of a named function, and of a closure. Nothing of a program stands here. -/
namespace Go.Lx
open Go Go.RowKit
section
variable {P : Program} {fr : Fr} {w : World} {d : Option Nat} {t : TypeId} {ps : String} {af : Array Edge} {g : Option (Nat × Bool)}
theorem Z1 {f : FuncId} {tys : Array TypeId} (hc : ∀ args w, (callFunc f args).run P w = .ok (.enter f args) w)  :
  xop P fr w ⟨d, .call { callee := .value (.func f), args := #[], argTypes := tys }, t, ps, af, g⟩ = .ok (.enter f #[]) w := by
 skip
 simp [xop, execOp, resolve, ev, Deferred.ofValue, invoke, hc]
theorem QD {f : FuncId} {x1 : Operand} {v1 : Value} {tys : Array TypeId} (hc : ∀ args w, (callFunc f args).run P w = .ok (.enter f args) w) (h1 : ev fr x1 = v1) :
  xop P fr w ⟨d, .call { callee := .value (.func f), args := #[x1], argTypes := tys }, t, ps, af, g⟩ = .ok (.enter f #[v1]) w := by
 subst h1
 simp [xop, execOp, resolve, ev, Deferred.ofValue, invoke, hc]
theorem o_clo1 {f : FuncId} {y : Operand} {cs : Array Value} {x1 : Operand} {v1 : Value} {tys : Array TypeId} (hc : ∀ args w, (callFunc f args).run P w = .ok (.enter f args) w) (hf : ev fr y = .func (.func f) #[] cs) (h1 : ev fr x1 = v1) :
  xop P fr w ⟨d, .call { callee := .value y, args := #[x1], argTypes := tys }, t, ps, af, g⟩ = .ok (.enter f (#[v1] ++ cs)) w := by
 subst h1
 simp [xop, execOp, resolve, hf, Deferred.ofValue, invoke, hc]
theorem QB {f : FuncId} {x1 x2 : Operand} {v1 v2 : Value} {tys : Array TypeId} (hc : ∀ args w, (callFunc f args).run P w = .ok (.enter f args) w) (h1 : ev fr x1 = v1) (h2 : ev fr x2 = v2) :
  xop P fr w ⟨d, .call { callee := .value (.func f), args := #[x1, x2], argTypes := tys }, t, ps, af, g⟩ = .ok (.enter f #[v1, v2]) w := by
 subst h1 h2
 simp [xop, execOp, resolve, ev, Deferred.ofValue, invoke, hc]
theorem JR {f : FuncId} {y : Operand} {cs : Array Value} {x1 x2 : Operand} {v1 v2 : Value} {tys : Array TypeId} (hc : ∀ args w, (callFunc f args).run P w = .ok (.enter f args) w) (hf : ev fr y = .func (.func f) #[] cs) (h1 : ev fr x1 = v1) (h2 : ev fr x2 = v2) :
  xop P fr w ⟨d, .call { callee := .value y, args := #[x1, x2], argTypes := tys }, t, ps, af, g⟩ = .ok (.enter f (#[v1, v2] ++ cs)) w := by
 subst h1 h2
 simp [xop, execOp, resolve, hf, Deferred.ofValue, invoke, hc]
theorem Zg {f : FuncId} {x1 x2 x3 : Operand} {v1 v2 v3 : Value} {tys : Array TypeId} (hc : ∀ args w, (callFunc f args).run P w = .ok (.enter f args) w) (h1 : ev fr x1 = v1) (h2 : ev fr x2 = v2) (h3 : ev fr x3 = v3) :
  xop P fr w ⟨d, .call { callee := .value (.func f), args := #[x1, x2, x3], argTypes := tys }, t, ps, af, g⟩ = .ok (.enter f #[v1, v2, v3]) w := by
 subst h1 h2 h3
 simp [xop, execOp, resolve, ev, Deferred.ofValue, invoke, hc]
theorem o_call4 {f : FuncId} {x1 x2 x3 x4 : Operand} {v1 v2 v3 v4 : Value} {tys : Array TypeId} (hc : ∀ args w, (callFunc f args).run P w = .ok (.enter f args) w) (h1 : ev fr x1 = v1) (h2 : ev fr x2 = v2) (h3 : ev fr x3 = v3) (h4 : ev fr x4 = v4) :
  xop P fr w ⟨d, .call { callee := .value (.func f), args := #[x1, x2, x3, x4], argTypes := tys }, t, ps, af, g⟩ = .ok (.enter f #[v1, v2, v3, v4]) w := by
 subst h1 h2 h3 h4
 simp [xop, execOp, resolve, ev, Deferred.ofValue, invoke, hc]
end
theorem Zm {c : Bool} (h : (!c) = true) : c = false := by cases c <;> simp_all
theorem Zo {c : Bool} (h : (!c) = false) : c = true := by cases c <;> simp_all
theorem QK {c : Bool} {v u : Value} (h : c = true) : (bif c then v else u) = v := by rw [h]; rfl
theorem gand {c q : Bool} {v u : Value} (h : c = true) : (bif c && q then v else u) = (bif q then v else u) := by rw [h]; rfl
section
variable {rd : Option Nat} {P : Program} {n : Nat} {K : Fr → World → Prop} {fr : Fr} {w : World}
theorem ZR {ops : Array Oper} {d : Option Nat} {op : Op} {ty : TypeId} {pos : String} {after : Array Edge} {rest : List Oper} {v : Value} {b c oc : Bool} (i g : Nat) (hi : (ops[i]?).bind (·.dst) = some g) (hc : fr g = (bif oc then .bool c else undef)) (hd : dstOk n d = true) (h : (oc && (c == b)) = true → (execOp (ev fr) ⟨d, op, ty, pos, after, none⟩).run P w = .ok (.value v) w) (hk : Rg rd P n ops rest K (fr.put d (bif oc && (c == b) then v else undef)) w) : Rg rd P n ops (⟨d, op, ty, pos, after, some (i, b)⟩ :: rest) K fr w := by
 cases oc with
 | true => exact Qs i g hi hc hd (by simpa using h) (by simpa using hk)
 | false =>
  intro N Q hq a ha
  refine wpListIn_step fun K' hK' => ?_
  have hy : yielded ops a.tmps i = none := by
   unfold yielded
   have h1 : a.tmps.getD g undef = undef := by
    have : frOf a g = undef := by rw [ha.fr]; exact hc
    exact this
   rw [Array.getD_eq_getD_getElem?] at h1
   cases hx : a.tmps[g]? with
   | none => simp [hi, hx]
   | some y => rw [hx] at h1; simp at h1; subst h1; simp [hi, hx, undef]
  have hw : Region.wanted (⟨d, op, ty, pos, after, some (i, b)⟩ : Oper) (yielded ops a.tmps) = false := by
   simp only [Region.wanted, hy]; rfl
  rw [hw]
  exact ⟨fun _ _ => trivial, hK' _ _ (hk N Q hq _ (J4 ha hd undef))⟩
theorem Zy {γ : Prop} {ops : Array Oper} {d : Option Nat} {op : Op} {ty : TypeId} {pos : String} {after : Array Edge} {rest : List Oper} {v : Value} {f : FuncId} {args : Array Value} {b c : Bool} (i g : Nat) (hi : (ops[i]?).bind (·.dst) = some g) (hc : fr g = .bool c) (hd : dstOk n d = true) (h : (c == b) = true → (execOp (ev fr) ⟨d, op, ty, pos, after, none⟩).run P w = .ok (.enter f args) w ∧ Ok P f args w fun v' w' => v' = v ∧ Ext γ w w') (hk : ∀ w', Ext γ w w' → Rg rd P n ops rest K (fr.put d (bif c == b then v else undef)) w') : Rg rd P n ops (⟨d, op, ty, pos, after, some (i, b)⟩ :: rest) K fr w := by
 cases hcb : (c == b) with
 | true =>
  have : c = b := by simpa using hcb
  subst this
  obtain ⟨h1, h2⟩ := h hcb
  refine QA i g hi hc (Qo hd h1 (h2.mono ?_))
  rintro v' w' ⟨rfl, x⟩
  have := hk w' x
  rw [hcb] at this
  exact this
 | false =>
  have := hk w (Ext.rfl' w)
  rw [hcb] at this
  exact ZD i g rfl hi hc hcb hd this
theorem Rg_mayCall2 {γ : Prop} {ops : Array Oper} {d : Option Nat} {op : Op} {ty : TypeId} {pos : String} {after : Array Edge} {rest : List Oper} {v : Value} {f : FuncId} {args : Array Value} {b c oc : Bool} (i g : Nat) (hi : (ops[i]?).bind (·.dst) = some g) (hc : fr g = (bif oc then .bool c else undef)) (hd : dstOk n d = true) (h : (oc && (c == b)) = true → (execOp (ev fr) ⟨d, op, ty, pos, after, none⟩).run P w = .ok (.enter f args) w ∧ Ok P f args w fun v' w' => v' = v ∧ Ext γ w w') (hk : ∀ w', Ext γ w w' → Rg rd P n ops rest K (fr.put d (bif oc && (c == b) then v else undef)) w') : Rg rd P n ops (⟨d, op, ty, pos, after, some (i, b)⟩ :: rest) K fr w := by
 cases oc with
 | true => exact Zy (v := v) i g hi hc hd (by simpa using h) (by simpa using hk)
 | false => exact ZR (v := undef) i g (oc := false) hi hc hd (by simp) (by simpa using hk w (Ext.rfl' w))
end
end Go.Lx
/- Loops: the slots that a round writes are told by a list; all others are as they were ahead of the loop. Nothing of a program stands here. -/
namespace Go.Lx
open Go Go.RowKit
def inR (R : List (Nat × Nat)) (j : Nat) : Bool := R.any fun p => Nat.ble p.1 j && Nat.ble j p.2
def mix (R : List (Nat × Nat)) (fr base : Fr) : Fr := ⟨fun j => bif inR R j then base j else fr j, fr.ds⟩
def setL (fr : Fr) : List (Nat × Value) → Fr
 | [] => fr
 | p :: r => (setL fr r).set p.1 p.2
def slotsOk (fr : Fr) : List (Nat × Value) → Prop
 | [] => True
 | p :: r => fr p.1 = p.2 ∧ slotsOk fr r
def Off (R : List (Nat × Nat)) (fr g : Fr) : Prop := g.ds = fr.ds ∧ ∀ j, inR R j = false → g j = fr j
theorem JF {fr : Fr} {d j : Nat} {v : Value} (h : j ≠ d) : fr.set d v j = fr j := by
 have : Nat.beq j d = false := by
  cases hx : Nat.beq j d with
  | false => rfl
  | true => exact absurd (Nat.eq_of_beq_eq_true hx) h
 simp only [Fr.set, this, cond_false]
theorem Yj {fr : Fr} {d : Nat} {v : Value} : fr.set d v d = v := by
 have : Nat.beq d d = true := Nat.beq_refl d
 simp only [Fr.set, this, cond_true]
theorem set_same {fr : Fr} {d : Nat} {v : Value} (h : fr d = v) : fr.set d v = fr := by
 refine Fr.ext' (fun j => ?_) rfl
 by_cases hj : j = d
 ·subst hj; rw [Yj, h]
 ·rw [JF hj]
theorem setL_same {fr : Fr} : ∀ {L : List (Nat × Value)}, slotsOk fr L → setL fr L = fr
 | [], _ => rfl
 | p :: r, h => by rw [setL, setL_same h.2, set_same h.1]
theorem mix_same {R : List (Nat × Nat)} {fr g : Fr} (h : Off R fr g) : mix R fr g = g := by
 refine Fr.ext' (fun j => ?_) h.1.symm
 simp only [mix]
 cases hj : inR R j with
 | true => rfl
 | false => rw [cond_false, h.2 j hj]
theorem off_refl (R : List (Nat × Nat)) (fr : Fr) : Off R fr fr := ⟨rfl, fun _ _ => rfl⟩
theorem off_set {R : List (Nat × Nat)} {fr g : Fr} {d : Nat} {v : Value} (hd : inR R d = true) (h : Off R fr g) : Off R fr (g.set d v) := by
 refine ⟨h.1, fun j hj => ?_⟩
 rw [JF (by intro e; subst e; rw [hd] at hj; cases hj)]
 exact h.2 j hj
theorem off_put {R : List (Nat × Nat)} {fr g : Fr} {d : Nat} {v : Value} (hd : inR R d = true) (h : Off R fr g) : Off R fr (g.put (some d) v) := off_set hd h
theorem off_putN {R : List (Nat × Nat)} {fr g : Fr} {v : Value} (h : Off R fr g) : Off R fr (g.put none v) := h
theorem off_setL {R : List (Nat × Nat)} {fr g : Fr} : ∀ {L : List (Nat × Value)}, (L.all fun p => inR R p.1) = true → Off R fr g → Off R fr (setL g L)
 | [], _, h => h
 | p :: r, hL, h => by
  rw [List.all_cons, Bool.and_eq_true] at hL
  exact off_set hL.1 (off_setL hL.2 h)
theorem off_mix {R : List (Nat × Nat)} {fr base : Fr} : Off R fr (mix R fr base) := by
 refine ⟨rfl, fun j hj => ?_⟩
 simp only [mix, hj, cond_false]
def subR (R' R : List (Nat × Nat)) : Bool := R'.all fun p => R.any fun q => Nat.ble q.1 p.1 && Nat.ble p.2 q.2
theorem inR_sub {R' R : List (Nat × Nat)} {j : Nat} (h : subR R' R = true) (hj : inR R' j = true) : inR R j = true := by
 simp only [inR, List.any_eq_true, Bool.and_eq_true, Nat.ble_eq] at hj ⊢
 obtain ⟨p, hp, h1, h2⟩ := hj
 simp only [subR, List.all_eq_true, List.any_eq_true, Bool.and_eq_true, Nat.ble_eq] at h
 obtain ⟨q, hq, h3, h4⟩ := h p hp
 exact ⟨q, hq, by omega, by omega⟩
theorem off_mix' {R R' : List (Nat × Nat)} {fr fr' base : Fr} (hs : subR R' R = true) (h : Off R fr fr') : Off R fr (mix R' fr' base) := by
 refine ⟨h.1, fun j hj => ?_⟩
 have : inR R' j = false := by
  cases hx : inR R' j with
  | false => rfl
  | true => rw [inR_sub hs hx] at hj; cases hj
 simp only [mix, this, cond_false]
 exact h.2 j hj
theorem oR (R : List (Nat × Nat)) (fr : Fr) : Off R fr fr := off_refl R fr
theorem oM {R : List (Nat × Nat)} {fr base : Fr} : Off R fr (mix R fr base) := off_mix
theorem oP {R : List (Nat × Nat)} {fr g : Fr} {d : Nat} {v : Value} (hd : inR R d = true) (h : Off R fr g) : Off R fr (g.put (some d) v) := off_put hd h
theorem oN {R : List (Nat × Nat)} {fr g : Fr} {v : Value} (h : Off R fr g) : Off R fr (g.put none v) := off_putN h
theorem oL {R : List (Nat × Nat)} {fr g : Fr} {L : List (Nat × Value)} (hL : (L.all fun p => inR R p.1) = true) (h : Off R fr g) : Off R fr (setL g L) := off_setL hL h
theorem oX {R R' : List (Nat × Nat)} {fr fr' base : Fr} (hs : subR R' R = true) (h : Off R fr fr') : Off R fr (mix R' fr' base) := off_mix' hs h
theorem oT {R : List (Nat × Nat)} {fr g : Fr} (h : Off R fr g := by repeat (first | with_reducible exact oR _ _ | with_reducible exact oM | ((with_reducible refine oP ?_ ?_); exact rfl) | (with_reducible refine oN ?_) | ((with_reducible refine oL ?_ ?_); exact rfl) | ((with_reducible refine oX ?_ ?_); exact rfl) | refine oP rfl ?_ | refine oN ?_ | refine oL rfl ?_ | refine oX rfl ?_ | exact oR _ _ | exact oM)) : Off R fr g := h
theorem sT {a b : Value} (h : a = b := by first | rfl | (go_num) | (exact congrArg _ (by omega))) : a = b := h
theorem QU {rd : Option Nat} {P : Program} {n : Nat} {c : Code} {K : Fr → World → Prop} {E : Nat → Fr → World → Prop} {Rt : Fr → World → Prop} {fr : Fr} {w : World} {α : Type}
  (R : List (Nat × Nat)) (S : α → List (Nat × Value)) (I : α → World → Prop) (mu : α → Nat) (x0 : α) (hS : slotsOk fr (S x0)) (h0 : I x0 w)
  (hr : ∀ x base w, I x w → W rd P n c (fun fr' w' => ∃ y, slotsOk fr' (S y) ∧ Off R fr fr' ∧ I y w' ∧ mu y < mu x) E Rt (setL (mix R fr base) (S x)) w) :
  W rd P n (.loop c) K E Rt fr w := by
 refine W_loop (fun x fr' w' => slotsOk fr' (S x) ∧ Off R fr fr' ∧ I x w') mu x0 ⟨hS, off_refl _ _, h0⟩ ?_
 rintro x fr' w' ⟨h1, h2, h3⟩
 have := hr x fr' w' h3
 rw [mix_same h2, setL_same h1] at this
 refine this.mono ?_ (fun _ _ _ h => h) (fun _ _ h => h)
 rintro fr2 w2 ⟨y, h1, h2, h3, h4⟩
 exact ⟨y, ⟨h1, h2, h3⟩, h4⟩
/- Short words for what walks say most (squeeze.py puts them in). -/
theorem cvB {a b : Bool} (h : a = b) : Value.bool a = Value.bool b := congrArg Value.bool h
theorem dcT {p : Prop} [Decidable p] (h : decide p = true) : p := of_decide_eq_true h
theorem dcF {p : Prop} [Decidable p] (h : decide p = false) : ¬ p := of_decide_eq_false h
theorem neF {α : Type _} [BEq α] [LawfulBEq α] {a b : α} (h : a ≠ b) : (a == b) = false := beq_eq_false_iff_ne.2 h
theorem xRf (w : World) : Ext False w w := Bel.refl _ _
end Go.Lx
/- Slices that are read: a slice of elements of k cells each, told by a list. Nothing of a program stands here. -/
namespace Go.Lx
open Go Go.RowKit
structure Sl {α : Type} (enc : α → List Value) (k : Nat) (F : Nat → Prop) (w : World) (a : Option Addr) (c : Nat) (l : List α) : Prop where
 le : l.length ≤ c
 cap : c ≤ maxLen
 nil : a = none → c = 0
 el : ∀ i x, l[i]? = some x → ∃ b off, a = some ⟨b, off, none⟩ ∧ (F b ∧ b < w.heap.size) ∧ At w b (off + i * k) (enc x) ∧ (enc x).length = k
def Rd {α : Type} (enc : α → List Value) (k : Nat) (F : Nat → Prop) (w : World) (v : Value) (l : List α) : Prop := ∃ a c, v = .slice a l.length c ∧ Sl enc k F w a c l
section
variable {α : Type} {enc : α → List Value} {k : Nat} {F : Nat → Prop} {w w' : World} {a : Option Addr} {c : Nat} {l : List α}
theorem Sl.keep {γ : Prop} {D : Nat → Prop} (h : Sl enc k F w a c l) (x : Bel γ D w w') (hd : ∀ b, b < w.heap.size → F b → ¬ D b) : Sl enc k F w' a c l :=
 ⟨h.le, h.cap, h.nil, fun i y hy => let ⟨b, off, h1, h2, h3, h4⟩ := h.el i y hy; ⟨b, off, h1, ⟨h2.1, Nat.lt_of_lt_of_le h2.2 x.size⟩, h3.keep x (hd b h2.2 h2.1), h4⟩⟩
theorem Sl.ext {γ : Prop} (h : Sl enc k F w a c l) (x : Ext γ w w') : Sl enc k F w' a c l := h.keep x fun _ _ _ h => h
theorem Sl.mono {F' : Nat → Prop} (h : Sl enc k F w a c l) (hF : ∀ b, b < w.heap.size → F b → F' b) : Sl enc k F' w a c l :=
 ⟨h.le, h.cap, h.nil, fun i y hy => let ⟨b, off, h1, h2, h3, h4⟩ := h.el i y hy; ⟨b, off, h1, ⟨hF b h2.2 h2.1, h2.2⟩, h3, h4⟩⟩
theorem Sl.top (h : Sl enc k F w a c l) : Sl enc k (Lt w.heap.size) w a c l := h.mono fun _ hb _ => hb
theorem Sl.rd (h : Sl enc k F w a c l) : Rd enc k F w (.slice a l.length c) l := ⟨a, c, rfl, h⟩
theorem Sl.trd (h : Sl enc k F w a c l) : Rd enc k (Lt w.heap.size) w (.slice a l.length c) l := h.top.rd
theorem Sl.none : Sl enc k F w none 0 ([] : List α) := ⟨Nat.le_refl _, Nat.zero_le _, fun _ => rfl, fun i x h => by simp at h⟩
theorem Rd.none : Rd enc k F w (.slice none 0 0) ([] : List α) := ⟨_, _, rfl, Sl.none⟩
theorem Rd.keep {γ : Prop} {D : Nat → Prop} {v : Value} (h : Rd enc k F w v l) (x : Bel γ D w w') (hd : ∀ b, b < w.heap.size → F b → ¬ D b) : Rd enc k F w' v l := let ⟨a, c, h1, h2⟩ := h; ⟨a, c, h1, h2.keep x hd⟩
theorem Rd.ext {γ : Prop} {v : Value} (h : Rd enc k F w v l) (x : Ext γ w w') : Rd enc k F w' v l := h.keep x fun _ _ _ h => h
theorem Rd.mono {F' : Nat → Prop} {v : Value} (h : Rd enc k F w v l) (hF : ∀ b, b < w.heap.size → F b → F' b) : Rd enc k F' w v l := let ⟨a, c, h1, h2⟩ := h; ⟨a, c, h1, h2.mono hF⟩
theorem Rd.top {v : Value} (h : Rd enc k F w v l) : Rd enc k (Lt w.heap.size) w v l := h.mono fun _ hb _ => hb
theorem Sl.len (h : Sl enc k F w a c l) : (l.length : Int) ≤ 9223372036854775807 := by
 have h1 := h.le; have h2 := h.cap; unfold maxLen at h2; omega
end
def elp (a : Option Addr) (j : Nat) : Option Addr := a.map fun a => a.add j
theorem ZY (b off j : Nat) : elp (some ⟨b, off, none⟩) j = some ⟨b, off + j, none⟩ := by
 simp only [elp, Option.map_some, Addr.add]
 by_cases h : j = 0
 ·subst h; rfl
 ·rw [if_neg h]
section
variable {P : Program} {fr : Fr} {w : World} {d : Option Nat} {t : TypeId} {ps : String} {af : Array Edge} {g : Option (Nat × Bool)} {x y z : Operand} {T U : TypeId} {α : Type} {enc : α → List Value} {k : Nat} {F : Nat → Prop} {a : Option Addr} {c : Nat} {l : List α} {K : IntKind}
theorem QW {e : TypeId} {n i s : Nat} (hP : P.underlying T = some (.slice e)) (hs : ∀ w, (sizeOf e).run P w = .ok s w) (hr : Sl enc k F w a c l) (hx : ev fr x = .slice a l.length n) (hy : ev fr y = .int K (i : Int)) (hi : i < l.length) :
  xop P fr w ⟨d, .indexAddr T x y, t, ps, af, g⟩ = .ok (.value (.pointer (elp a (i * s)))) w := by
 obtain ⟨b, off, rfl, _⟩ := hr.el i _ (List.getElem?_eq_getElem hi)
 rw [ZY]
 exact o_ia hP hs hx hy hi
theorem Zx {i : Nat} {v : Value} {y : α} (ha : ∀ w, (isAgg T).run P w = .ok false w) (hr : Sl enc k F w a c l) (hk : k = 1) (hx : ev fr x = .pointer (elp a (i * 1))) (hi : l[i]? = some y) (hv : enc y = [v]) :
  xop P fr w ⟨d, .load T x, t, ps, af, g⟩ = .ok (.value v) w := by
 subst hk
 obtain ⟨b, off, rfl, _, h3, _⟩ := hr.el i _ hi
 rw [ZY] at hx
 rw [hv] at h3
 exact Qm ha hx (h3 0 v rfl)
theorem QY {i s : Nat} {y : α} (ha : ∀ w, (isAgg T).run P w = .ok true w) (hs : ∀ w, (sizeOf T).run P w = .ok s w) (hr : Sl enc s F w a c l) (hx : ev fr x = .pointer (elp a (i * s))) (hi : l[i]? = some y) :
  xop P fr w ⟨d, .load T x, t, ps, af, g⟩ = .ok (.value (.agg (enc y).toArray)) w := by
 obtain ⟨b, off, rfl, _, h3, h4⟩ := hr.el i _ hi
 rw [ZY] at hx
 exact QF ha hs hx h3 h4
theorem Jm {e : TypeId} {n c s : Nat} {j : Nat} (hP : P.underlying T = some (.slice e)) (hs : ∀ w, (sizeOf e).run P w = .ok s w) (hx : ev fr x = .slice a n c) (hj : ev fr z = .int .i64 (j : Int)) (hl : j ≤ c) :
  xop P fr w ⟨d, .slice T x none (some z) none, t, ps, af, g⟩ = .ok (.value (.slice a j c)) w := by
 have e0 : (if c = 0 then a else a.map (·.add (0 * s))) = a := by
  by_cases h : c = 0
  ·rw [if_pos h]
  ·rw [if_neg h]; cases a with
   | none => rfl
   | some v => simp [Addr.add]
 simp [xop, execOp, hx, hj, Instr.slice, Instr.sliceAt, Instr.sliceBounds, Instr.sliceBound, asIntOf, run_underlying hP, hl, hs]
 simpa using e0
end
