/- A small program logic over the model's Code.wp: frames as functions, three posts (normal, exits, return), one rule a form of code. Nothing of a program stands here. -/
import Derived.WalkKit
import Derived.Below
import Derived.WalkLawsBesides
import Derived.TacticsIn
import Derived.RangeFuncLeaves
import Derived.RangeFuncRecord
namespace Go.Lx
open Go
set_option linter.unusedSimpArgs false
set_option linter.unusedVariables false
set_option linter.unnecessarySimpa false

/-- A frame: its slots, and what has been deferred. -/
structure Fr where
  sl : Nat → Value
  ds : List Deferred
instance : CoeFun Fr (fun _ => Nat → Value) := ⟨Fr.sl⟩
theorem Fr.ext' {f g : Fr} (h : ∀ j, f j = g j) (hd : f.ds = g.ds) : f = g := by
  obtain ⟨f, d⟩ := f
  obtain ⟨g, e⟩ := g
  obtain rfl : f = g := funext h
  obtain rfl : d = e := hd
  rfl
def Fr.set (fr : Fr) (d : Nat) (v : Value) : Fr := ⟨fun j => bif Nat.beq j d then v else fr j, fr.ds⟩
def Fr.put (fr : Fr) (d : Option Nat) (v : Value) : Fr := match d with | some d => fr.set d v | none => fr
def frOf (a : Act) : Fr := ⟨fun i => a.tmps.getD i undef, a.defers⟩
structure Is (a : Act) (n : Nat) (fr : Fr) : Prop where
  sz : a.tmps.size = n
  fr : frOf a = fr
theorem Is.df {a : Act} {n : Nat} {fr : Fr} (h : Is a n fr) : a.defers = fr.ds := by rw [← h.fr]; rfl
def ev (fr : Fr) : Operand → Value
  | .tmp t => fr t
  | .const v => v
  | .global g => .pointer (some ⟨g, 0, none⟩)
  | .func f => .func (.func f) #[] #[]
theorem ev_eq {a : Act} {n : Nat} {fr : Fr} (h : Is a n fr) : a.eval = ev fr := by
  funext x
  obtain ⟨_, rfl⟩ := h
  cases x <;> rfl
def dstOk (n : Nat) : Option Nat → Bool
  | some d => Nat.blt d n
  | none => true
theorem is_put {a : Act} {n : Nat} {fr : Fr} {d : Option Nat} (h : Is a n fr) (hd : dstOk n d = true) (v : Value) : Is (a.put d v) n (fr.put d v) := by
  obtain ⟨h2, rfl⟩ := h
  cases d with
  | none => exact ⟨h2, rfl⟩
  | some d =>
    have hlt : d < n := by simpa [dstOk, Nat.blt_eq] using hd
    refine ⟨by simpa [Act.put] using h2, ?_⟩
    refine Fr.ext' (fun i => ?_) rfl
    simp only [frOf, Act.put, Fr.put, Fr.set]
    by_cases hi : i = d
    · subst hi
      have : i < a.tmps.size := by omega
      simp [Array.getD, this]
    · have hb : Nat.beq i d = false := by
        cases hx : Nat.beq i d with
        | false => rfl
        | true => exact absurd (Nat.eq_of_beq_eq_true hx) hi
      rw [hb]
      simp only [cond_false, Array.getD_eq_getD_getElem?]
      rw [Array.getElem?_setIfInBounds_ne (by omega)]

def post (n : Nat) (K : Fr → World → Prop) (E : Nat → Fr → World → Prop) (R : Fr → World → Prop) : Exit → Act → World → Prop
  | .normal, a, w => ∃ fr, Is a n fr ∧ K fr w
  | .ret, a, w => ∃ fr, Is a n fr ∧ R fr w
  | .exit i, a, w => ∃ fr, Is a n fr ∧ E i fr w
  | _, _, _ => False
/-- Every function may be called; r: the round that we are in. -/
def Fw (r : Option Nat) : Fence := { fn := fun _ => True, depth := none, alive := false, round := r }
theorem semAt_run {P : Program} {r : Option Nat} {ρ : Operand → Value} {o : Oper} {w w' : World} {x : Next} (h : (execOp ρ o).run P w = .ok x w') (hx : ∀ d, x ≠ .defer d) : (Oper.semAt r ρ o).run P w = .ok x w' := by
  by_cases hd : ∃ c, o.op = .defer c
  · exfalso
    obtain ⟨c, hc⟩ := hd
    unfold execOp at h
    rw [hc] at h
    simp only [Sem.run_bind] at h
    cases hr : (resolve ρ c o.type).run P w with
    | ok d w1 => rw [hr] at h; simp [Result.andThen] at h; exact hx _ h.1.symm
    | halt y w1 => rw [hr] at h; simp [Result.andThen] at h
  · rw [Oper.semAt_eq _ _ _ (fun c e => hd ⟨c, e⟩)]
    exact h
theorem callsIn_fw {r : Option Nat} {N : Nat} {P : Program} {f : FuncId} {args : Array Value} {w : World} {R : Ending → World → Prop} (h : Calls P f args w R) : CallsIn (Fw r) N P f args w R :=
  (callsIn_wide (n := N)).2 h
/-- The code c, from frame fr (of n slots) and world w: it ends normally in K, leaves by exit i in E i, or returns in R. -/
def W (r : Option Nat) (P : Program) (n : Nat) (c : Code) (K : Fr → World → Prop) (E : Nat → Fr → World → Prop) (R : Fr → World → Prop) (fr : Fr) (w : World) : Prop :=
  ∀ N a, Is a n fr → c.wpIn (Fw r) N P (post n K E R) a w
section
variable {r : Option Nat} {P : Program} {n : Nat} {K K' : Fr → World → Prop} {E E' : Nat → Fr → World → Prop} {R R' : Fr → World → Prop} {fr : Fr} {w : World}

theorem W.mono {c : Code} (h : W r P n c K E R fr w) (hk : ∀ fr w, K fr w → K' fr w) (he : ∀ i fr w, E i fr w → E' i fr w) (hr : ∀ fr w, R fr w → R' fr w) : W r P n c K' E' R' fr w := by
  intro N a ha
  refine wpIn_mono (h N a ha) ?_
  intro e a w q
  cases e <;> simp only [post] at q ⊢
  · obtain ⟨f, h1, h2⟩ := q; exact ⟨f, h1, hk _ _ h2⟩
  · obtain ⟨f, h1, h2⟩ := q; exact ⟨f, h1, he _ _ _ h2⟩
  · obtain ⟨f, h1, h2⟩ := q; exact ⟨f, h1, hr _ _ h2⟩

theorem W_skip (h : K fr w) : W r P n .skip K E R fr w := fun _ _ ha => wpIn_skip ⟨_, ha, h⟩
theorem W_ret (h : R fr w) : W r P n .ret K E R fr w := fun _ _ ha => wpIn_ret ⟨_, ha, h⟩
theorem W_exit {i : Nat} (h : E i fr w) : W r P n (.exit i) K E R fr w := fun _ _ ha => wpIn_exit ⟨_, ha, h⟩
theorem W_seq {x y : Code} (h : W r P n x (W r P n y K E R) E R fr w) : W r P n (.seq x y) K E R fr w := by
  intro N a ha
  refine wpIn_seq (wpIn_mono (h N a ha) ?_)
  intro e a w q
  cases e <;> simp only [post, Exit.then] at q ⊢
  · obtain ⟨f, h1, h2⟩ := q; exact h2 N a h1
  all_goals exact q
theorem W_cond {x : Operand} {t e : Code} {b : Bool} (hx : ev fr x = .bool b) (ht : b = true → W r P n t K E R fr w) (hf : b = false → W r P n e K E R fr w) :
    W r P n (.cond x t e) K E R fr w := by
  intro N a ha
  have he : a.eval x = .bool b := by rw [ev_eq ha]; exact hx
  cases b
  · exact wpIn_cond_false he (hf rfl N a ha)
  · exact wpIn_cond_true he (ht rfl N a ha)
theorem W_cond_true {x : Operand} {t e : Code} (hx : ev fr x = .bool true) (ht : W r P n t K E R fr w) : W r P n (.cond x t e) K E R fr w :=
  W_cond hx (fun _ => ht) (fun h => by cases h)
theorem W_cond_false {x : Operand} {t e : Code} (hx : ev fr x = .bool false) (hf : W r P n e K E R fr w) : W r P n (.cond x t e) K E R fr w :=
  W_cond hx (fun h => by cases h) (fun _ => hf)
def exAt (E : Nat → Fr → World → Prop) (id : Nat) (K : Fr → World → Prop) : Nat → Fr → World → Prop := fun j => bif Nat.beq j id then K else E j
theorem exAt_hit {id : Nat} (h : K fr w) : exAt E id K id fr w := by
  have : Nat.beq id id = true := Nat.beq_refl id
  simp only [exAt, this, cond_true]; exact h
theorem exAt_miss {id j : Nat} (hj : Nat.beq j id = false) (h : E j fr w) : exAt E id K j fr w := by
  simp only [exAt, hj, cond_false]; exact h
theorem W_block {id : Nat} {c : Code} (h : W r P n c K (exAt E id K) R fr w) : W r P n (.block id c) K E R fr w := by
  intro N a ha
  refine wpIn_block (wpIn_mono (h N a ha) ?_)
  intro e a w q
  cases e <;> simp only [post, Exit.inBlock] at q ⊢
  · exact q
  · rename_i i
    obtain ⟨f, h1, h2⟩ := q
    by_cases hi : i = id
    · subst hi; rw [if_pos rfl]
      refine ⟨f, h1, ?_⟩
      have : Nat.beq i i = true := Nat.beq_refl i
      simpa only [exAt, this, cond_true] using h2
    · rw [if_neg hi]
      refine ⟨f, h1, ?_⟩
      have hb : Nat.beq i id = false := by
        cases hx : Nat.beq i id with
        | false => rfl
        | true => exact absurd (Nat.eq_of_beq_eq_true hx) hi
      simpa only [exAt, hb, cond_false] using h2
  · exact q
theorem least_of (p : Nat → Prop) (h : ∃ k, p k) : ∃ k, p k ∧ ∀ j, p j → k ≤ j := by
  obtain ⟨k, hk⟩ := h
  induction k using Nat.strongRecOn with
  | _ k ih =>
    by_cases hx : ∃ j, j < k ∧ p j
    · obtain ⟨j, hj, hpj⟩ := hx; exact ih j hj hpj
    · exact ⟨k, hk, fun j hj => Nat.le_of_not_lt fun hlt => hx ⟨j, hlt, hj⟩⟩
/-- A loop: I, with ghost x; mu goes down each round. -/
theorem W_loop {c : Code} {α : Type} (I : α → Fr → World → Prop) (mu : α → Nat) (x0 : α) (h0 : I x0 fr w)
    (hr : ∀ x fr w, I x fr w → W r P n c (fun fr' w' => ∃ y, I y fr' w' ∧ mu y < mu x) E R fr w) : W r P n (.loop c) K E R fr w := by
  intro N a ha
  classical
  let J : Act → World → Prop := fun a w => ∃ x, I x (frOf a) w ∧ Is a n (frOf a)
  let p : Act → World → Nat → Prop := fun a w k => ∃ x, (I x (frOf a) w) ∧ mu x = k
  let m : Act → World → Nat := fun a w => if h : ∃ k, p a w k then Classical.choose (least_of (p a w) h) else 0
  have hm : ∀ a w (x : α), I x (frOf a) w → m a w ≤ mu x := by
    intro a w x hx
    have h : ∃ k, p a w k := ⟨_, x, hx, rfl⟩
    have e : m a w = Classical.choose (least_of (p a w) h) := dif_pos h
    rw [e]
    exact (Classical.choose_spec (least_of (p a w) h)).2 _ ⟨x, hx, rfl⟩
  have hm' : ∀ a w, (∃ x, I x (frOf a) w) → ∃ x, I x (frOf a) w ∧ mu x = m a w := by
    intro a w ⟨x, hx⟩
    have h : ∃ k, p a w k := ⟨_, x, hx, rfl⟩
    have e : m a w = Classical.choose (least_of (p a w) h) := dif_pos h
    rw [e]
    exact (Classical.choose_spec (least_of (p a w) h)).1
  refine wpIn_loop J m ⟨x0, by rw [ha.fr]; exact h0, ⟨ha.sz, rfl⟩⟩ ?_
  rintro a w ⟨x, hx, his⟩
  obtain ⟨y, hy, hmy⟩ := hm' a w ⟨x, hx⟩
  refine wpIn_mono (hr y _ w hy N a his) ?_
  intro e a' w' q
  cases e <;> simp only [post, Exit.then] at q ⊢
  · obtain ⟨f, h1, z, hz, hlt⟩ := q
    have hf := h1.fr
    subst hf
    exact ⟨⟨z, hz, h1⟩, by have := hm a' w' z hz; omega⟩
  all_goals exact q

/-! ### Regions -/
def Rg (r : Option Nat) (P : Program) (n : Nat) (ops : Array Oper) (l : List Oper) (K : Fr → World → Prop) (fr : Fr) (w : World) : Prop :=
  ∀ (N : Nat) (Q : Exit → Act → World → Prop), (∀ a fr w, Is a n fr → K fr w → Q .normal a w) → ∀ a, Is a n fr → wpListIn (Fw r) N P ops Q l a w
theorem W_region {id : Nat} {l : List Oper} (h : Rg r P n l.toArray l K fr w) : W r P n (.region id l.toArray false) K E R fr w := by
  intro N a ha
  exact wpIn_region_lit (h N _ (fun _ _ _ h1 h2 => ⟨_, h1, h2⟩) a ha)
theorem Rg_nil {ops : Array Oper} (h : K fr w) : Rg r P n ops [] K fr w := fun _ _ hq _ ha => wpListIn_nil (hq _ _ _ ha h)
/-- An operation that yields a value. -/
theorem Rg_run {ops : Array Oper} {d : Option Nat} {op : Op} {ty : TypeId} {pos : String} {af : Array Edge} {rest : List Oper} {v : Value} {w' : World} (hd : dstOk n d = true)
    (h : (execOp (ev fr) ⟨d, op, ty, pos, af, none⟩).run P w = .ok (.value v) w') (hk : Rg r P n ops rest K (fr.put d v) w') : Rg r P n ops (⟨d, op, ty, pos, af, none⟩ :: rest) K fr w := by
  intro N Q hq a ha
  refine wpListIn_plain rfl fun K' hK' => ?_
  unfold Oper.wpIn
  rw [ev_eq ha]
  refine ⟨fun _ _ => trivial, ?_⟩
  rw [show (Fw r).round = r from rfl, semAt_run h (fun _ e => by cases e)]
  exact hK' _ _ (hk N Q hq _ (is_put ha hd v))
theorem Rg_skip {ops : Array Oper} {d : Option Nat} {op : Op} {ty : TypeId} {pos : String} {af : Array Edge} {rest : List Oper} {w' : World} (hd : dstOk n d = true)
    (h : (execOp (ev fr) ⟨d, op, ty, pos, af, none⟩).run P w = .ok .skip w') (hk : Rg r P n ops rest K (fr.put d undef) w') : Rg r P n ops (⟨d, op, ty, pos, af, none⟩ :: rest) K fr w := by
  intro N Q hq a ha
  refine wpListIn_plain rfl fun K' hK' => ?_
  unfold Oper.wpIn
  rw [ev_eq ha]
  refine ⟨fun _ _ => trivial, ?_⟩
  rw [show (Fw r).round = r from rfl, semAt_run h (fun _ e => by cases e)]
  exact hK' _ _ (hk N Q hq _ (is_put ha hd undef))
/-- What a call must do: it returns, with S of value and world. -/
def Ok (P : Program) (f : FuncId) (args : Array Value) (w : World) (S : Value → World → Prop) : Prop :=
  Calls P f args w fun e w' => ∃ v, e = .returned v ∧ S v w'
theorem Ok.mono {f : FuncId} {args : Array Value} {S S' : Value → World → Prop} (h : Ok P f args w S) (hs : ∀ v w', S v w' → S' v w') : Ok P f args w S' :=
  Calls.mono h fun _ _ ⟨v, h1, h2⟩ => ⟨v, h1, hs _ _ h2⟩
theorem Rg_enter {ops : Array Oper} {d : Option Nat} {op : Op} {ty : TypeId} {pos : String} {af : Array Edge} {rest : List Oper} {f : FuncId} {args : Array Value} {w0 : World} (hd : dstOk n d = true)
    (h : (execOp (ev fr) ⟨d, op, ty, pos, af, none⟩).run P w = .ok (.enter f args) w0) (hk : Ok P f args w0 fun v w' => Rg r P n ops rest K (fr.put d v) w') : Rg r P n ops (⟨d, op, ty, pos, af, none⟩ :: rest) K fr w := by
  intro N Q hq a ha
  refine wpListIn_plain rfl fun K' hK' => ?_
  unfold Oper.wpIn
  rw [ev_eq ha]
  refine ⟨fun _ _ => trivial, ?_⟩
  rw [show (Fw r).round = r from rfl, semAt_run h (fun _ e => by cases e)]
  refine ⟨fun e => (by cases e), callsIn_fw (Calls.mono hk ?_)⟩
  rintro e w' ⟨v, rfl, hv⟩
  exact hK' _ _ (hv N Q hq _ (is_put ha hd v))
theorem yielded_of {ops : Array Oper} {a : Act} {i g : Nat} {b : Bool} (ha : Is a n fr) (hi : (ops[i]?).bind (·.dst) = some g) (hb : fr g = .bool b) : yielded ops a.tmps i = some b := by
  unfold yielded
  have h1 : a.tmps.getD g undef = .bool b := by rw [← hb, ← ha.fr]; rfl
  have h2 : a.tmps[g]? = some (.bool b) := by
    rw [Array.getD_eq_getD_getElem?] at h1
    cases hx : a.tmps[g]? with
    | none => rw [hx] at h1; simp [undef] at h1
    | some y => rw [hx] at h1; simpa using h1
  simp [hi, h2]
/-- A guarded operation whose guard says no. -/
theorem Rg_off {ops : Array Oper} {o : Oper} {rest : List Oper} {b c : Bool} (i g : Nat) (hg : o.guard = some (i, b)) (hi : (ops[i]?).bind (·.dst) = some g) (hc : fr g = .bool c) (hne : (c == b) = false) (hd : dstOk n o.dst = true) (hk : Rg r P n ops rest K (fr.put o.dst undef) w) : Rg r P n ops (o :: rest) K fr w := by
  intro N Q hq a ha
  refine wpListIn_step fun K' hK' => ?_
  have hw : Region.wanted o (yielded ops a.tmps) = false := by
    simp only [Region.wanted, hg, yielded_of ha hi hc]
    cases c <;> cases b <;> simp_all
  rw [hw]
  exact ⟨fun _ _ => trivial, hK' _ _ (hk N Q hq _ (is_put ha hd undef))⟩
/-- A guarded operation whose guard says yes: take the guard away. -/
theorem Rg_on {ops : Array Oper} {d : Option Nat} {op : Op} {ty : TypeId} {pos : String} {after : Array Edge} {rest : List Oper} {b : Bool} (i g : Nat) (hi : (ops[i]?).bind (·.dst) = some g) (hc : fr g = .bool b) (hk : Rg r P n ops (⟨d, op, ty, pos, after, none⟩ :: rest) K fr w) : Rg r P n ops (⟨d, op, ty, pos, after, some (i, b)⟩ :: rest) K fr w := by
  intro N Q hq a ha
  have := hk N Q hq a ha
  unfold wpListIn at this ⊢
  have hw : Region.wanted (⟨d, op, ty, pos, after, some (i, b)⟩ : Oper) (yielded ops a.tmps) = true := by
    simp only [Region.wanted, yielded_of ha hi hc]
    simp
  have hw' : Region.wanted (⟨d, op, ty, pos, after, none⟩ : Oper) (yielded ops a.tmps) = true := rfl
  rw [hw'] at this
  rw [hw]
  exact this
theorem Rg_split {ops : Array Oper} {l : List Oper} {c : Bool} (g : Nat) (_hc : fr g = .bool c) (ht : c = true → Rg r P n ops l K fr w) (hf : c = false → Rg r P n ops l K fr w) : Rg r P n ops l K fr w := by
  cases c with
  | true => exact ht rfl
  | false => exact hf rfl
/-- A guarded operation that, where it runs, yields v and leaves the world alone. -/
theorem Rg_may {ops : Array Oper} {d : Option Nat} {op : Op} {ty : TypeId} {pos : String} {after : Array Edge} {rest : List Oper} {v : Value} {b c : Bool} (i g : Nat) (hi : (ops[i]?).bind (·.dst) = some g) (hc : fr g = .bool c) (hd : dstOk n d = true) (h : (c == b) = true → (execOp (ev fr) ⟨d, op, ty, pos, after, none⟩).run P w = .ok (.value v) w) (hk : Rg r P n ops rest K (fr.put d (bif c == b then v else undef)) w) : Rg r P n ops (⟨d, op, ty, pos, after, some (i, b)⟩ :: rest) K fr w := by
  cases hcb : (c == b) with
  | true =>
    have : c = b := by simpa using hcb
    subst this
    refine Rg_on i g hi hc (Rg_run hd (h hcb) ?_)
    rw [hcb] at hk
    exact hk
  | false =>
    rw [hcb] at hk
    exact Rg_off i g rfl hi hc hcb hd hk
end

/-! ### A function's body -/
def argFr (args : List Value) : Fr := ⟨fun j => (args[j]?).getD undef, []⟩
/-- What is handed back, L being deferred. -/
def Res (L : List Deferred) (P : Program) (fn : Func) (n : Nat) (fr : Fr) (w : World) (v : Value) : Prop := fr.ds = L ∧ ∀ a, Is a n fr → (results fn a.tmps).run P w = .ok v w
/-- The mark that a range over a function leaves behind. -/
def mkD (b : Nat) : Deferred := { target := .collected b, args := #[] }
/-- The worlds in which the marks are shut, one after the other. -/
def shut (w : World) : List Nat → World
  | [] => w
  | b :: r => shut (w.putObj b (.deferred none)) r
def Mks (w : World) : List Nat → Prop
  | [] => True
  | b :: r => b ∉ r ∧ w.heap[b]? = some (.deferred (some [])) ∧ Mks w r
theorem Mks.keep {w w' : World} : ∀ {l : List Nat}, (∀ b, b ∈ l → w'.heap[b]? = w.heap[b]?) → Mks w l → Mks w' l
  | [], _, _ => trivial
  | b :: r, h, k => ⟨k.1, (h b (by simp)).trans k.2.1, Mks.keep (fun c hc => h c (by simp [hc])) k.2.2⟩
theorem argIs {args : Array Value} {n : Nat} (hle : args.size ≤ n) : Is { tmps := args ++ Array.replicate (n - args.size) undef, defers := [] } n (argFr args.toList) := by
  refine ⟨by simp; omega, Fr.ext' (fun i => ?_) rfl⟩
  simp only [frOf, argFr, Array.getD_eq_getD_getElem?, Array.getElem?_append]
  by_cases hi : i < args.size
  · simp [hi]
  · simp only [hi, if_false, Array.getElem?_replicate]
    have : args.toList[i]? = none := by simp; omega
    rw [this]
    split <;> rfl
theorem leaves_mks {P : Program} {N : Nat} {fn : Func} {tmps : Array Value} {S : Value → World → Prop} {v : Value} : ∀ {L : List Nat} {w : World}, Mks w L → (results fn tmps).run P (shut w L) = .ok v (shut w L) → S v (shut w L) →
    LeavesInM (Fw none) N P fn tmps (fun e w' => ∃ v, e = .returned v ∧ S v w') (L.map mkD) .returning w
  | [], w, _, h, hs => ⟨v, h, v, rfl, hs⟩
  | b :: r, w, hm, h, hs => by
    refine ⟨by simp, .inl ⟨b, _, rfl, run_takeDeferred hm.2.1, leaves_mks (hm.2.2.keep fun c hc => ?_) h hs⟩⟩
    exact World.putObj_heap_other (fun e => hm.1 (e ▸ hc))
/-- A function with marks. -/
theorem Ok_of_WM {P : Program} {f : FuncId} {fn : Func} {c : Code} {args : Array Value} {w : World} {S : Value → World → Prop} (n : Nat)
    (hf : P.funcs[f]? = some fn) (hb : fn.body = some c) (hn : fn.ntmps = n) (ha : Nat.ble args.size n = true)
    (h : W none P n c (fun fr w => ∃ L v, Mks w L ∧ Res (L.map mkD) P fn n fr (shut w L) v ∧ S v (shut w L)) (fun _ _ _ => False) (fun fr w => ∃ L v, Mks w L ∧ Res (L.map mkD) P fn n fr (shut w L) v ∧ S v (shut w L)) (argFr args.toList) w) : Ok P f args w S := by
  have hle : args.size ≤ n := by simpa using ha
  refine (callsIn_wide (n := 0)).1 (callsIn_of_wp_marks (F := Fence.wide) hf hb trivial ?_)
  rw [hn]
  refine wpIn_mono (h 0 _ (argIs hle)) ?_
  have fin : ∀ (a : Act) (w : World), (∃ fr, Is a n fr ∧ ∃ L v, Mks w L ∧ Res (L.map mkD) P fn n fr (shut w L) v ∧ S v (shut w L)) → LeavesInM Fence.wide 0 P fn a.tmps (fun e w' => ∃ v, e = .returned v ∧ S v w') a.defers .returning w := by
    rintro a w ⟨fr, h1, L, v, hm, hr, hs⟩
    rw [h1.df, hr.1]
    exact leaves_mks hm (hr.2 a h1) hs
  intro e a w q
  cases e <;> simp only [post] at q
  · exact fin a w q
  · obtain ⟨fr, h1, h2⟩ := q; exact h2.elim
  · exact fin a w q
theorem Ok_of_W {P : Program} {f : FuncId} {fn : Func} {c : Code} {args : Array Value} {w : World} {S : Value → World → Prop} (n : Nat)
    (hf : P.funcs[f]? = some fn) (hb : fn.body = some c) (hn : fn.ntmps = n) (ha : Nat.ble args.size n = true)
    (h : W none P n c (fun fr w => ∃ v, Res [] P fn n fr w v ∧ S v w) (fun _ _ _ => False) (fun fr w => ∃ v, Res [] P fn n fr w v ∧ S v w) (argFr args.toList) w) : Ok P f args w S :=
  Ok_of_WM n hf hb hn ha (h.mono (fun _ _ ⟨v, h1, h2⟩ => ⟨[], v, trivial, h1, h2⟩) (fun _ _ _ h => h) (fun _ _ ⟨v, h1, h2⟩ => ⟨[], v, trivial, h1, h2⟩))
theorem res_tmp {L : List Deferred} {fn : Func} {n t : Nat} {fr : Fr} {P : Program} {w : World} {v : Value} (h : fn.results = #[.tmp t]) (hv : fr t = v) (hd : fr.ds = L := by rfl) : Res L P fn n fr w v := by
  refine ⟨hd, fun a ha => ?_⟩
  rw [results_tmp h, ← hv, ← ha.fr]; rfl
theorem res_tmp2 {L : List Deferred} {fn : Func} {n t u : Nat} {fr : Fr} {P : Program} {w : World} {v v' : Value} (h : fn.results = #[.tmp t, .tmp u]) (hv : fr t = v) (hv' : fr u = v') (hd : fr.ds = L := by rfl) : Res L P fn n fr w (.tuple #[v, v']) := by
  refine ⟨hd, fun a ha => ?_⟩
  rw [results_tmp2 h, ← hv, ← hv', ← ha.fr]; rfl
theorem res_none {L : List Deferred} {fn : Func} {n : Nat} {fr : Fr} {P : Program} {w : World} (h : fn.results = #[]) (hd : fr.ds = L := by rfl) : Res L P fn n fr w (.tuple #[]) := by
  refine ⟨hd, fun a ha => ?_⟩
  rw [results_none h]
end Go.Lx
