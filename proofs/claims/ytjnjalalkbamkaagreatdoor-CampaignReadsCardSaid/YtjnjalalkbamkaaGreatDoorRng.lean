/- Several texts in one file. -/
import Derived.Test.YtjnjalalkbamkaaGreatDoorOwn2
import Derived.RangeFuncIn
import Derived.RangeFuncRecord
import Derived.Test.YtjnjalalkbamkaaGreatDoorPure11f
import Derived.Lib.TrailingZeros
import Derived.Test.YtjnjalalkbamkaaGreatDoorShelf
import Derived.Test.YtjnjalalkbamkaaGreatDoorDrawC
import Derived.Laws.Pointers
set_option linter.unusedSimpArgs false
set_option linter.unusedVariables false
set_option linter.unnecessarySimpa false
/- A range over a function: what an iterator must do, and the rule for the statement. No round is left early here. Nothing of a program stands here. -/
namespace Go.Lx
open Go Go.RowKit
def Yl (P : Program) (l : Nat) (args : Array Value) (u : World) (R : Ending → World → Prop) : Prop :=
 ∀ N, ∃ fn tmps assign body, (Instr.yield l args).run P u = .ok (.round l fn tmps assign body) u ∧ RoundIn (Fw none) N P l fn tmps assign body u R
def Iter {α : Type} (P : Program) (gf : Nat) (lb : Array Value) (D : Nat → Prop) (w0 : World) (xs : List α) (enc : α → Value) : Prop :=
 ∀ (l : Nat) (J : Nat → World → Prop) (u : World), Ext False w0 u → (∀ i a b, J i a → Ext False a b → J i b) →
  (∀ i x a, xs[i]? = some x → J i a → Yl P l #[enc x] a fun e b => e = .returned (.bool true) ∧ J (i + 1) b ∧ Bel False D a b) →
  J 0 u → Ok P gf (#[.func (.yield l) #[] #[]] ++ lb) u fun _ b => J xs.length b
def Fr.mark (fr : Fr) (b : Nat) : Fr := ⟨fr.sl, mkD b :: fr.ds⟩
def Fr.bare (fr : Fr) : Fr := ⟨fr.sl, []⟩
theorem Bel.putObj {w : World} {b : Nat} {o : Obj} {D : Nat → Prop} (hD : D b) : Bel False D w (w.putObj b o) :=
 ⟨rfl, rfl, rfl, by simp [World.putObj], fun c _ hc => World.putObj_heap_other (fun e => hc (e ▸ hD)), False.elim⟩
theorem shut_bel : ∀ (l : List Nat) (w : World), Bel False (fun g => g ∈ l) w (shut w l)
 | [], w => Bel.refl _ _
 | b :: r, w => (Bel.putObj (o := .deferred none) (D := fun g => g ∈ b :: r) (List.mem_cons_self)).tr (shut_bel r _) (fun _ _ h => h) (fun _ _ h => List.mem_cons_of_mem _ h)
theorem Mks.kp {γ : Prop} {D : Nat → Prop} {w w' : World} : ∀ {l : List Nat}, Mks w l → Bel γ D w w' → (∀ b, b ∈ l → b < w.heap.size → ¬ D b) → Mks w' l
 | [], _, _, _ => trivial
 | b :: r, h, x, hd => ⟨h.1, (x.block b (Array.getElem?_eq_some_iff.1 h.2.1).1 (hd b List.mem_cons_self (Array.getElem?_eq_some_iff.1 h.2.1).1)).trans h.2.1, Mks.kp h.2.2 x (fun c hc => hd c (List.mem_cons_of_mem _ hc))⟩
theorem Mks.lt {w : World} : ∀ {l : List Nat}, Mks w l → ∀ b, b ∈ l → b < w.heap.size
 | [], _, b, hb => by simp at hb
 | c :: r, h, b, hb => by
  rcases List.mem_cons.1 hb with rfl | hb
  ·exact (Array.getElem?_eq_some_iff.1 h.2.1).1
  ·exact Mks.lt h.2.2 b hb
theorem Mks.ext {γ : Prop} {w w' : World} {l : List Nat} (h : Mks w l) (x : Ext γ w w') : Mks w' l := h.kp x fun _ _ _ => id
theorem Ext.alloc2 (w : World) (o o' : Obj) : Ext False w ((w.alloc o).alloc o') := (Ext.alloc w o).ex (Ext.alloc (w.alloc o) o')
theorem W_range {α : Type} {P : Program} {n : Nat} {K : Fr → World → Prop} {E : Nat → Fr → World → Prop} {R : Fr → World → Prop} {fr : Fr} {w : World} {g : Operand} {p : Nat} {assign body : Code} {gf : Nat} {lb : Array Value}
  (xs : List α) (enc : α → Value) (D : Nat → Prop) (I : Nat → World → Prop) (hp : dstOk n (some p) = true)
  (hg : ev fr g = .func (.func gf) #[] lb) (eg : ∀ args w, (callFunc gf args).run P w = .ok (.enter gf args) w)
  (it : Iter P gf lb (fun b => D b ∨ w.heap.size ≤ b) w xs enc) (hD : ∀ b, D b → b < w.heap.size ∨ w.heap.size + 2 ≤ b)
  (hI : ∀ i a b, w.heap.size + 2 ≤ a.heap.size → I i a → Bel False (fun b => b = w.heap.size + 1) a b → I i b)
  (h0 : ∀ a, Ext False w a → a.heap.size = w.heap.size + 2 → I 0 a)
  (hb : ∀ l i x a, xs[i]? = some x → w.heap.size + 2 ≤ a.heap.size → I i a →
   W (some l) P n assign (fun f1 a1 => Ext False a a1 ∧ ∀ a2, Bel False (fun b => b = w.heap.size + 1) a1 a2 → W (some l) P n body (fun _ b => Bel False D a2 b ∧ I (i + 1) b) (fun _ _ _ => False) (fun _ _ => False) f1 a2) (fun _ _ _ => False) (fun _ _ => False) (fr.bare.set p (enc x)) a)
  (hk : ∀ a, w.heap.size + 2 ≤ a.heap.size → I xs.length a → a.heap[w.heap.size]? = some (.deferred (some [])) → K (fr.mark w.heap.size) a) :
  W none P n (.rangeFunc g #[p] assign body) K E R fr w := by
 intro N a ha
 have hev : a.eval g = .func (.func gf) #[] lb := by rw [ev_eq ha]; exact hg
 refine wpIn_rangeFunc ?_
 intro fn hfn
 obtain ⟨rec, hrec⟩ : ∃ rec : LoopState → Option Code → Loop, rec = fun st pe => { state := st, pending := pe, fn, tmps := a.tmps, params := #[p], assign, body, defers := w.heap.size } := ⟨_, rfl⟩
 obtain ⟨w1, hw1⟩ : ∃ w1, (w.alloc (.deferred (some []))).alloc (.loop (rec .ready none)) = w1 := ⟨_, rfl⟩
 have hx1 : Ext False w w1 := by rw [← hw1]; exact Ext.alloc2 _ _ _
 have hs1 : w1.heap.size = w.heap.size + 2 := by rw [← hw1]; simp only [World.size_alloc]
 have hL1 : w1.heap[w.heap.size + 1]? = some (.loop (rec .ready none)) := by rw [← hw1]; have := World.alloc_heap_new (w.alloc (.deferred (some []))) (.loop (rec .ready none)); rwa [World.size_alloc] at this
 have hD1 : w1.heap[w.heap.size]? = some (.deferred (some [])) := by rw [← hw1]; exact ((Ext.alloc (β := False) (w.alloc (.deferred (some []))) (.loop (rec .ready none))).block _ (by simp only [World.size_alloc]; omega) id).trans (World.alloc_heap_new w _)
 refine ⟨w.heap.size + 1, [mkD w.heap.size], w1, { target := .fn (.func gf) lb, args := #[.func (.yield (w.heap.size + 1)) #[] #[]] }, w1, gf,
  #[.func (.yield (w.heap.size + 1)) #[] #[]] ++ lb, w1, ?_, ?_, fun _ _ => trivial, ?_, fun e => (by cases e), ?_⟩
 ·rw [← hw1, hrec]; exact run_enterLoop_outer _ _ _ _ _
 ·simp only [resolve, hev]
  simp [go_sem, Deferred.ofValue]
 ·simp [invoke, go_sem, eg]
 ·have key := it (w.heap.size + 1)
   (fun i a => I i a ∧ a.heap[w.heap.size + 1]? = some (.loop (rec .ready none)) ∧ a.heap[w.heap.size]? = some (.deferred (some [])))
   w1 hx1 (fun i a b ⟨h1, h2, h3⟩ x => by
    have l2 := (Array.getElem?_eq_some_iff.1 h2).1
    have l3 := (Array.getElem?_eq_some_iff.1 h3).1
    exact ⟨hI i a b (by omega) h1 (x.mono fun _ _ h => h.elim), (x.block _ l2 id).trans h2, (x.block _ l3 id).trans h3⟩) ?_ ⟨h0 w1 hx1 hs1, hL1, hD1⟩
  ·refine CallsIn.mono (callsIn_fw (N := N - 1) key) ?_
   rintro e b ⟨v, rfl, h1, h2, h3⟩
   have l2 := (Array.getElem?_eq_some_iff.1 h2).1
   refine ⟨none, b.putObj (w.heap.size + 1) (.loop { rec .ready none with state := .exhausted }), ?_, ?_⟩
   ·have := run_endLoop (P := P) h2 (by rw [hrec]; simp)
    rw [hrec] at this ⊢
    exact this
   ·refine ⟨fr.mark w.heap.size, ⟨ha.sz, ?_⟩, hk _ (by simp [World.putObj]; omega) (hI _ _ _ (by omega) h1 (Bel.putObj rfl)) ((World.putObj_heap_other (by omega)).trans h3)⟩
    rw [← ha.fr]; rfl
  ·rintro i x u hx ⟨h1, h2, h3⟩ M
   have l2 := (Array.getElem?_eq_some_iff.1 h2).1
   have l3 := (Array.getElem?_eq_some_iff.1 h3).1
   have hy := run_yield (P := P) (args := #[enc x]) h2 (by rw [hrec]; rfl)
   rw [hrec] at hy
   refine ⟨fn, _, assign, body, hy, roundIn_of_wpIn hfn ?_⟩
   have his : Is { tmps := ((#[p] : Array Tmp).zip #[enc x]).foldl (fun tmps (t, a) => tmps.setIfInBounds t a) a.tmps, defers := [] } n (fr.bare.set p (enc x)) := by
    have hb0 : Is { a with defers := [] } n fr.bare := ⟨ha.sz, by rw [← ha.fr]; rfl⟩
    have := is_put hb0 hp (enc x)
    simpa [Act.put, Fr.put] using this
   refine wpIn_mono (hb (w.heap.size + 1) i x u hx (by omega) h1 M _ his) ?_
   intro e a1 u1 q
   cases e <;> simp only [post, Exit.then] at q ⊢
   ·obtain ⟨f1, his1, hx1', hbody⟩ := q
    have h2' : u1.heap[w.heap.size + 1]? = some (.loop (rec .ready none)) := (hx1'.block _ l2 id).trans h2
    have h3' : u1.heap[w.heap.size]? = some (.deferred (some [])) := (hx1'.block _ l3 id).trans h3
    have l2' := (Array.getElem?_eq_some_iff.1 h2').1
    refine ⟨_, run_beginRound h2' (by rw [hrec]), ?_⟩
    have hl2 : (u1.putObj (w.heap.size + 1) (.loop { rec .ready none with state := .busy })).heap[w.heap.size + 1]? = some (.loop { rec .ready none with state := .busy }) := World.putObj_heap_same l2'
    have hk2 : (u1.putObj (w.heap.size + 1) (.loop { rec .ready none with state := .busy })).heap[w.heap.size]? = some (.deferred (some [])) := (World.putObj_heap_other (by omega)).trans h3'
    refine wpIn_mono (hbody _ (Bel.putObj rfl) M a1 his1) ?_
    intro e2 a3 u3 q
    cases e2 <;> simp only [post, roundPost] at q ⊢
    ·obtain ⟨f3, _, hbl, hi3⟩ := q
     have hl3 : u3.heap[w.heap.size + 1]? = some (.loop { rec .ready none with state := .busy }) := (hbl.block _ (Array.getElem?_eq_some_iff.1 hl2).1 (fun h => by have := hD _ h; omega)).trans hl2
     have hk3 : u3.heap[w.heap.size]? = some (.deferred (some [])) := (hbl.block _ (Array.getElem?_eq_some_iff.1 hk2).1 (fun h => by have := hD _ h; omega)).trans hk2
     have l4 := (Array.getElem?_eq_some_iff.1 hl3).1
     have hend := run_endRound (P := P) none hl3
     refine ⟨_, _, hend, rfl, ⟨hI _ _ _ (by omega) hi3 (Bel.putObj rfl), ?_, (World.putObj_heap_other (by omega)).trans hk3⟩, ?_⟩
     ·rw [World.putObj_heap_same l4, hrec]; rfl
     ·have e1 : Bel False (fun b => D b ∨ w.heap.size ≤ b) u u1 := hx1'.mono fun _ _ h => h.elim
      have e2 : Bel False (fun b => D b ∨ w.heap.size ≤ b) u1 (u1.putObj (w.heap.size + 1) (.loop { rec .ready none with state := .busy })) := Bel.putObj (.inr (by omega))
      have e3 : Bel False (fun b => D b ∨ w.heap.size ≤ b) (u1.putObj (w.heap.size + 1) (.loop { rec .ready none with state := .busy })) u3 := hbl.mono fun _ _ h => .inl h
      exact ((e1.same e2).same e3).same (Bel.putObj (.inr (by omega)))
    all_goals exact (by obtain ⟨_, _, q⟩ := q; exact q.elim)
   all_goals exact (by obtain ⟨_, _, q⟩ := q; exact q.elim)
def Fr.wds (fr : Fr) (L : List Deferred) : Fr := ⟨fr.sl, L⟩
theorem W_forD {rd : Option Nat} {P : Program} {n : Nat} {c : Code} {K : Fr → World → Prop} {E : Nat → Fr → World → Prop} {Rt : Fr → World → Prop} {fr : Fr} {w : World} {α : Type}
  (R : List (Nat × Nat)) (S : α → List (Nat × Value)) (Dm : α → List Nat) (I : α → World → Prop) (mu : α → Nat) (x0 : α) (hS : slotsOk fr (S x0)) (hD : fr.ds = (Dm x0).map mkD) (h0 : I x0 w)
  (hr : ∀ x base w, I x w → W rd P n c (fun fr' w' => ∃ y, slotsOk fr' (S y) ∧ Off R (fr.wds fr'.ds) fr' ∧ fr'.ds = (Dm y).map mkD ∧ I y w' ∧ mu y < mu x) E Rt (setL ((mix R fr base).wds ((Dm x).map mkD)) (S x)) w) :
  W rd P n (.loop c) K E Rt fr w := by
 refine W_loop (fun x fr' w' => slotsOk fr' (S x) ∧ Off R (fr.wds fr'.ds) fr' ∧ fr'.ds = (Dm x).map mkD ∧ I x w') mu x0 ⟨hS, ⟨rfl, fun _ _ => rfl⟩, hD, h0⟩ ?_
 rintro x fr' w' ⟨h1, h2, hd, h3⟩
 have := hr x fr' w' h3
 have e : (mix R fr fr').wds ((Dm x).map mkD) = fr' := by
  refine Fr.ext' (fun j => ?_) hd.symm
  simp only [Fr.wds, mix]
  cases hj : inR R j with
  | true => rfl
  | false => rw [cond_false]; exact (h2.2 j hj).symm
 rw [e, setL_same h1] at this
 refine this.mono ?_ (fun _ _ _ h => h) (fun _ _ h => h)
 rintro fr2 w2 ⟨y, h1, h2, hd, h3, h4⟩
 exact ⟨y, ⟨h1, h2, hd, h3⟩, h4⟩
def OffS (R : List (Nat × Nat)) (fr g : Fr) : Prop := ∀ j, inR R j = false → g j = fr j
theorem offS_of {R : List (Nat × Nat)} {fr g : Fr} (h : OffS R fr g) : Off R (fr.wds g.ds) g := ⟨rfl, h⟩
theorem offS_refl (R : List (Nat × Nat)) (fr : Fr) : OffS R fr fr := fun _ _ => rfl
theorem offS_put {R : List (Nat × Nat)} {fr g : Fr} {d : Nat} {v : Value} (hd : inR R d = true) (h : OffS R fr g) : OffS R fr (g.put (some d) v) := fun j hj => by
 show (g.set d v) j = _
 rw [set_ne (by intro e; subst e; rw [hd] at hj; cases hj)]
 exact h j hj
theorem offS_putN {R : List (Nat × Nat)} {fr g : Fr} {v : Value} (h : OffS R fr g) : OffS R fr (g.put none v) := h
theorem offS_mark {R : List (Nat × Nat)} {fr g : Fr} {b : Nat} (h : OffS R fr g) : OffS R fr (g.mark b) := h
theorem offS_wds {R : List (Nat × Nat)} {fr g : Fr} {L : List Deferred} (h : OffS R fr g) : OffS R fr (g.wds L) := h
theorem offS_mix {R R' : List (Nat × Nat)} {fr fr' base : Fr} (hs : subR R' R = true) (h : OffS R fr fr') : OffS R fr (mix R' fr' base) := fun j hj => by
 have : inR R' j = false := by
  cases hx : inR R' j with
  | false => rfl
  | true => rw [inR_sub hs hx] at hj; cases hj
 simp only [mix, this, cond_false]
 exact h j hj
theorem offS_mixR {R : List (Nat × Nat)} {fr base : Fr} : OffS R fr (mix R fr base) := fun j hj => by simp only [mix, hj, cond_false]
theorem offS_setL {R : List (Nat × Nat)} {fr g : Fr} : ∀ {L : List (Nat × Value)}, (L.all fun p => inR R p.1) = true → OffS R fr g → OffS R fr (setL g L)
 | [], _, h => h
 | p :: r, hL, h => by
  rw [List.all_cons, Bool.and_eq_true] at hL
  exact offS_put hL.1 (offS_setL hL.2 h)
end Go.Lx
/- The members of a word, from the least on; the library's count of trailing zeros; a call of yield. -/
namespace Go.Lx
open Go Go.RowKit
def ctzW (x : W64) : Nat := Lib.ctz 64 x.toNat
theorem ctz_spec {x : W64} (h : x ≠ 0) : ∃ m, x.toNat = 2 ^ ctzW x * (2 * m + 1) ∧ ctzW x < 64 := by
 have h0 : x.toNat ≠ 0 := fun e => h (by apply BitVec.eq_of_toNat_eq; simpa using e)
 have := Lib.ctzFrom_spec 64 x.toNat (by omega) x.isLt
 have e : ctzW x = Lib.ctzFrom 64 x.toNat := by simp [ctzW, Lib.ctz, h0]
 rw [e]; exact this
theorem odd_bit (m i : Nat) : (2 * m + 1).testBit i = if i = 0 then true else m.testBit (i - 1) := by
 cases i with
 | zero => simp [Nat.testBit_zero]
 | succ i => simp [Nat.testBit_succ]; congr 1; omega
theorem even_bit (m i : Nat) : (2 * m).testBit i = if i = 0 then false else m.testBit (i - 1) := by
 cases i with
 | zero => simp [Nat.testBit_zero]
 | succ i => simp [Nat.testBit_succ]
theorem ctz_bit {x : W64} (h : x ≠ 0) (i : Nat) : x.getLsbD i = if i < ctzW x then false else if i = ctzW x then true else x.getLsbD i := by
 obtain ⟨m, hm, hk⟩ := ctz_spec h
 have e : x.getLsbD i = x.toNat.testBit i := rfl
 by_cases h1 : i < ctzW x
 ·rw [if_pos h1, e, hm]
  have := Nat.testBit_two_pow_mul_add (2 * m + 1) (b := 0) (i := ctzW x) (by exact Nat.two_pow_pos _) i
  rw [Nat.add_zero] at this
  rw [this, if_pos h1]; simp
 ·rw [if_neg h1]
  by_cases h2 : i = ctzW x
  ·rw [if_pos h2, e, hm]
   have := Nat.testBit_two_pow_mul_add (2 * m + 1) (b := 0) (i := ctzW x) (by exact Nat.two_pow_pos _) i
   rw [Nat.add_zero] at this
   rw [this, if_neg h1, odd_bit, if_pos (by omega)]
  ·rw [if_neg h2]
theorem clear_bit {x : W64} (h : x ≠ 0) (i : Nat) : (x &&& (x - 1#64)).getLsbD i = (x.getLsbD i && !decide (i = ctzW x)) := by
 obtain ⟨m, hm, hk⟩ := ctz_spec h
 have hp : 0 < 2 ^ ctzW x := Nat.two_pow_pos _
 have h0 : 1 ≤ x.toNat := by rw [hm]; exact Nat.mul_pos hp (by omega)
 have e1 : (x - 1#64).toNat = 2 ^ ctzW x * (2 * m) + (2 ^ ctzW x - 1) := by
  have hlt := x.isLt
  rw [BitVec.toNat_sub]
  simp only [BitVec.toNat_ofNat, Nat.reducePow, Nat.reduceMod, Nat.reduceSub]
  have e2 : x.toNat = 2 ^ ctzW x * (2 * m) + 2 ^ ctzW x := by rw [hm]; exact Nat.mul_succ _ _
  omega
 rw [BitVec.getLsbD_and]
 have ex : x.getLsbD i = x.toNat.testBit i := rfl
 have ey : (x - 1#64).getLsbD i = (x - 1#64).toNat.testBit i := rfl
 have a1 := Nat.testBit_two_pow_mul_add (2 * m + 1) (b := 0) (i := ctzW x) hp i
 rw [Nat.add_zero, ← hm] at a1
 have a2 := Nat.testBit_two_pow_mul_add (2 * m) (b := 2 ^ ctzW x - 1) (i := ctzW x) (by omega) i
 rw [ex, ey, e1, a1, a2]
 by_cases h1 : i < ctzW x
 ·simp [h1]
 ·rw [if_neg h1, if_neg h1, odd_bit, even_bit]
  by_cases h2 : i = ctzW x
  ·subst h2; simp
  ·have : i - ctzW x ≠ 0 := by omega
   simp [this, h2]
theorem mem_step {x : W64} (h : x ≠ 0) (k : Nat) : memW x k = (if ctzW x < k then (ctzW x : Int) :: memW (x &&& (x - 1#64)) k else []) ∧ (k ≤ ctzW x → memW (x &&& (x - 1#64)) k = []) := by
 induction k with
 | zero => exact ⟨rfl, fun _ => rfl⟩
 | succ k ih =>
  obtain ⟨h1, h2⟩ := ih
  have hb := ctz_bit h k
  have hc := clear_bit h k
  by_cases a : k < ctzW x
  ·rw [if_pos a] at hb
   rw [hb] at hc
   rw [mem_no hb, mem_no (by simpa using hc), h1, if_neg (by omega), if_neg (by omega)]
   exact ⟨rfl, fun _ => h2 (by omega)⟩
  ·rw [if_neg a] at hb
   by_cases c : k = ctzW x
   ·rw [if_pos c] at hb
    rw [hb, c] at hc
    rw [mem_yes hb, h1, if_neg (by omega), if_pos (by omega)]
    have := mem_no (x := x &&& (x - 1#64)) (k := k) (by rw [c]; simpa using hc)
    rw [this, h2 (by omega), c]
    exact ⟨rfl, fun h => by omega⟩
   ·have hc' : (x &&& (x - 1#64)).getLsbD k = x.getLsbD k := by rw [hc]; simp [c]
    refine ⟨?_, fun h => by omega⟩
    cases hx : x.getLsbD k with
    | true => rw [mem_yes hx, mem_yes (hc'.trans hx), h1, if_pos (by omega), if_pos (by omega)]; rfl
    | false => rw [mem_no hx, mem_no (hc'.trans hx), h1, if_pos (by omega), if_pos (by omega)]
theorem mem_cons {x : W64} (h : x ≠ 0) : memW x 64 = (ctzW x : Int) :: memW (x &&& (x - 1#64)) 64 := by
 obtain ⟨m, hm, hk⟩ := ctz_spec h
 have := (mem_step h 64).1
 rwa [if_pos hk] at this
theorem mem_zero : memW 0 64 = [] := by
 simp [memW]
def restW (x : W64) : Nat → W64
 | 0 => x
 | j + 1 => restW x j &&& (restW x j - 1#64)
theorem rest_mem (x : W64) : ∀ j, j ≤ (memW x 64).length → memW (restW x j) 64 = (memW x 64).drop j
 | 0, _ => rfl
 | j + 1, h => by
  have ih := rest_mem x j (by omega)
  have hne : restW x j ≠ 0 := by
   intro e
   rw [e, mem_zero] at ih
   have := congrArg List.length ih
   simp at this; omega
  rw [mem_cons hne] at ih
  have := congrArg List.tail ih
  simp only [List.tail_cons, List.tail_drop] at this
  exact this
theorem rest_yes {x : W64} {j : Nat} (h : j ≤ (memW x 64).length) (hn : restW x j ≠ 0) : j < (memW x 64).length ∧ (memW x 64)[j]? = some (ctzW (restW x j) : Int) := by
 have := rest_mem x j h
 rw [mem_cons hn] at this
 have hl := congrArg List.length this
 simp at hl
 refine ⟨by omega, ?_⟩
 have h2 := congrArg (fun l => l[0]?) this
 simpa using h2.symm
theorem rest_no {x : W64} {j : Nat} (h : j ≤ (memW x 64).length) (hn : restW x j = 0) : j = (memW x 64).length := by
 have := rest_mem x j h
 rw [hn, mem_zero] at this
 have hl := congrArg List.length this
 simp at hl
 omega
theorem ctz_lt {x : W64} (h : x ≠ 0) : ctzW x < 64 := by
 obtain ⟨m, hm, hk⟩ := ctz_spec h
 exact hk
abbrev tabL : List Value := Lib.deBruijn64tab.map fun (n : Nat) => Value.int .u8 (n : Int)
abbrev Tb (w : World) : Prop := At w 0 0 tabL
theorem Tb.at {w : World} (h : Tb w) : Proofs.TabAt 0 Lib.deBruijn64tab w := by
 intro j hj
 have := h.get (v := .int .u8 ((Lib.deBruijn64tab.getD j 0 : Nat) : Int)) j (by
  rw [tabL, List.getElem?_map, List.getElem?_eq_getElem hj]
  simp [List.getD, List.getElem?_eq_getElem hj])
 rwa [Nat.zero_add] at this
theorem tz_ok (x : W64) (w : World) (hT : Tb w) : Ok Proofs.Tryz.prog 89 #[u64 x] w fun v w' => v = .int .i64 (ctzW x : Int) ∧ Ext False w w' := by
 refine Calls.mono (Proofs.Any7.bits_TrailingZeros64 Proofs.Tryz.tz64l x.toNat x.isLt w (fun _ => hT.at)) ?_
 rintro e w' ⟨rfl, rfl⟩
 exact ⟨_, rfl, rfl, Ext.rfl' _⟩
section
variable {P : Program} {n : Nat} {K : Fr → World → Prop} {fr : Fr} {w : World}
theorem Rg_yield {ops : Array Oper} {d : Option Nat} {y x : Operand} {tys : Array TypeId} {ty : TypeId} {pos : String} {af : Array Edge} {rest : List Oper} {l : Nat} {v : Value} {S : World → Prop} (hd : dstOk n d = true)
  (hy : ev fr y = .func (.yield l) #[] #[]) (hx : ev fr x = v) (h : Yl P l #[v] w fun e b => e = .returned (.bool true) ∧ S b)
  (hk : ∀ b, S b → Rg none P n ops rest K (fr.put d (.bool true)) b) :
  Rg none P n ops (⟨d, .call { callee := .value y, args := #[x], argTypes := tys }, ty, pos, af, none⟩ :: rest) K fr w := by
 intro N Q hq a ha
 refine wpListIn_plain rfl fun K' hK' => ?_
 unfold Oper.wpIn
 rw [ev_eq ha]
 refine ⟨fun _ _ => trivial, ?_⟩
 obtain ⟨fn, tmps, assign, body, hr, hro⟩ := h (N - 1)
 have he : (execOp (ev fr) ⟨d, .call { callee := .value y, args := #[x], argTypes := tys }, ty, pos, af, none⟩).run P w = .ok (.round l fn tmps assign body) w := by
  subst hx
  simp [execOp, resolve, hy, Deferred.ofValue, invoke, hr]
 rw [show (Fw none).round = none from rfl, semAt_run he (fun _ e => by cases e)]
 refine ⟨fun e => (by cases e), RoundIn.mono hro ?_⟩
 rintro e b ⟨rfl, hs⟩
 exact hK' _ _ (hk b hs N Q hq _ (is_put ha hd _))
end
end Go.Lx
/- Pairs of numbers below 64. Nothing of a program stands here. -/
namespace Go.Lx
open Go
abbrev Pr := Fin 64 × Fin 64
def iv (x : Fin 64) : Int := (x.val : Int)
def encPr (p : Pr) : List Value := [.int .i64 (iv p.1), .int .i64 (iv p.2)]
theorem encPr_ok : EncOk encPr 2 := ⟨by decide, fun _ => rfl, fun x u hu => by
 simp [encPr] at hu
 rcases hu with rfl | rfl <;> rfl⟩
def pz0 : Pr := (0, 0)
theorem iv_ge (x : Fin 64) : 0 ≤ iv x ∧ iv x < 64 := by unfold iv; have := x.isLt; omega
theorem iv_inj {x y : Fin 64} : iv x = iv y ↔ x = y := by
 unfold iv
 constructor
 ·intro h; exact Fin.ext (by omega)
 ·rintro rfl; rfl
theorem iv_beq (x y : Fin 64) : (iv x == iv y) = (x == y) := by
 rw [Bool.eq_iff_iff, beq_iff_eq, beq_iff_eq, iv_inj]
def cmpPr (p q : Pr) : Int := if (iv p.1 != iv q.1) = true then iv p.1 - iv q.1 else iv p.2 - iv q.2
theorem cmpPr_is : IsCmp cmpPr where
 eq p q := by
  unfold cmpPr
  split
  ·rename_i h
   have h1 : iv p.1 ≠ iv q.1 := by simpa using h
   constructor
   ·intro e; omega
   ·rintro rfl; exact absurd rfl h1
  ·rename_i h
   have h1 : iv p.1 = iv q.1 := by simpa using h
   constructor
   ·intro e
    have h2 : iv p.2 = iv q.2 := by omega
    exact Prod.ext (iv_inj.1 h1) (iv_inj.1 h2)
   ·rintro rfl; omega
 anti p q := by
  unfold cmpPr
  by_cases h : iv p.1 = iv q.1
  ·rw [if_neg (by simpa using h.symm), if_neg (by simpa using h)]; omega
  ·rw [if_pos (by simpa using fun e => h e.symm), if_pos (by simpa using h)]; omega
 tr p q r := by
  unfold cmpPr
  by_cases h : iv p.1 = iv q.1 <;> by_cases h' : iv q.1 = iv r.1 <;> by_cases h'' : iv p.1 = iv r.1 <;>
   (try rw [if_neg (by simpa using h)]) <;> (try rw [if_pos (by simpa using h)]) <;> (try rw [if_neg (by simpa using h')]) <;> (try rw [if_pos (by simpa using h')]) <;> (try rw [if_neg (by simpa using h'')]) <;> (try rw [if_pos (by simpa using h'')]) <;> omega
end Go.Lx
/- Pointers and nil; a checked type. Nothing of a program stands here. -/
namespace Go.Lx
open Go Go.RowKit
section
variable {P : Program} {fr : Fr} {w : World} {d : Option Nat} {t : TypeId} {ps : String} {af : Array Edge} {g : Option (Nat × Bool)} {x y z : Operand} {T K E U : TypeId}
theorem QG {v : Addr} (hx : ev fr x = .pointer (some v)) : xop P fr w ⟨d, .nilCheck x, t, ps, af, g⟩ = .ok (.value (.pointer (some v))) w := by
 simp [xop, execOp, hx]
theorem o_tassert {v : Value} {D : TypeDesc} (hT : P.underlying T = some D) (hD : (match D with | .interface _ => true | _ => false) = false) (hx : ev fr x = .iface T v) : xop P fr w ⟨d, .typeAssert x U T false, t, ps, af, g⟩ = .ok (.value v) w := by
 cases D <;> simp_all [xop, execOp, Instr.typeAssert, run_underlying hT]
theorem pointee_of {tp : TypeId} (hT : P.underlying T = some (.pointer tp)) : P.underlying T = some (.pointer (P.pointee T)) := by
 have : P.pointee T = tp := by unfold Program.pointee; rw [hT]
 rw [this]; exact hT
theorem o_peq {a : Option Addr} {tp : TypeId} (hT : P.underlying T = some (.pointer tp)) (hx : ev fr x = .pointer a) (hy : ev fr y = .pointer none) : xop P fr w ⟨d, .binOp .eql T x y U, t, ps, af, g⟩ = .ok (.value (.bool a.isNone)) w := by
 have := run_eql_pointer_nil (P := P) (w := w) T a (pointee_of hT)
 simp only [xop, execOp, hx, hy, eqGuard]
 simp [this]
theorem o_pne {a : Option Addr} {tp : TypeId} (hT : P.underlying T = some (.pointer tp)) (hx : ev fr x = .pointer a) (hy : ev fr y = .pointer none) : xop P fr w ⟨d, .binOp .neq T x y U, t, ps, af, g⟩ = .ok (.value (.bool !a.isNone)) w := by
 have := run_neq_pointer_nil (P := P) (w := w) T a (pointee_of hT)
 simp only [xop, execOp, hx, hy, eqGuard]
 simp [this]
end
end Go.Lx
/- An order in memory: its block, its pairs, the sets above and below each element. Nothing of a program stands here. -/
namespace Go.Lx
open Go Go.RowKit
structure OV where
 n : Nat
 ap : Option Addr
 cp : Nat
 pairs : List Pr
 aa : Option Addr
 ca : Nat
 above : List SV
 ab : Option Addr
 cb : Nat
 below : List SV
 asp : Option Addr
 csp : Nat
 sorted : List Int
def encOd (o : OV) : List Value := [.int .i64 (o.n : Int), .slice o.ap o.pairs.length o.cp, .slice o.aa o.above.length o.ca, .slice o.ab o.below.length o.cb, .slice o.asp o.sorted.length o.csp]
def WdsAt (F : Nat → Prop) (w : World) (l : List SV) : Prop := ∀ s ∈ l, Sl encU 1 F w s.a s.c (wl s.x)
structure OdAt (F : Nat → Prop) (w : World) (p : Nat) (o : OV) : Prop where
 blk : F p
 at' : At w p 0 (encOd o)
 pr : Sl encPr 2 F w o.ap o.cp o.pairs
 ab : Sl encSV 1 F w o.aa o.ca o.above
 be : Sl encSV 1 F w o.ab o.cb o.below
 wa : WdsAt F w o.above
 wb : WdsAt F w o.below
 la : o.above.length = o.n
 lb : o.below.length = o.n
 hn : o.n ≤ 64
section
variable {F F' D : Nat → Prop} {γ : Prop} {w w' : World} {p : Nat} {o : OV}
theorem WdsAt.keep {l : List SV} (h : WdsAt F w l) (x : Bel γ D w w') (hd : ∀ b, b < w.heap.size → F b → ¬ D b) : WdsAt F w' l := fun s hs => (h s hs).keep x hd
theorem WdsAt.mono {l : List SV} (h : WdsAt F w l) (hd : ∀ b, b < w.heap.size → F b → F' b) : WdsAt F' w l := fun s hs => (h s hs).mono hd
theorem WdsAt.ext {l : List SV} (h : WdsAt F w l) (x : Ext γ w w') : WdsAt F w' l := fun s hs => (h s hs).ext x
theorem OdAt.lt (h : OdAt F w p o) : p < w.heap.size := h.at'.lt
theorem OdAt.keep (h : OdAt F w p o) (x : Bel γ D w w') (hd : ∀ b, b < w.heap.size → F b → ¬ D b) : OdAt F w' p o :=
 ⟨h.blk, h.at'.keep x (hd p h.lt h.blk), h.pr.keep x hd, h.ab.keep x hd, h.be.keep x hd, h.wa.keep x hd, h.wb.keep x hd, h.la, h.lb, h.hn⟩
theorem OdAt.ext (h : OdAt F w p o) (x : Ext γ w w') : OdAt F w' p o := h.keep x fun _ _ _ => id
theorem OdAt.mono (h : OdAt F w p o) (hd : ∀ b, b < w.heap.size → F b → F' b) : OdAt F' w p o :=
 ⟨hd p h.lt h.blk, h.at', h.pr.mono hd, h.ab.mono hd, h.be.mono hd, h.wa.mono hd, h.wb.mono hd, h.la, h.lb, h.hn⟩
end
def postSV (F : Nat → Prop) (e : W64) : Post := fun v w => ∃ a c, v = .agg (encSV ⟨a, c, e⟩).toArray ∧ Sl encU 1 F w a c (wl e)
theorem postSV_stable (F : Nat → Prop) (e : W64) : Stable (postSV F e) := fun _ _ _ ⟨a, c, h1, h2⟩ x => ⟨a, c, h1, h2.ext x⟩
@[irreducible] def belO (o : OV) (a : Int) : W64 := if 0 ≤ a ∧ a < (o.n : Int) then (o.below.getD a.toNat sz).x else 0
@[irreducible] def junO (o : OV) (r : Int) : W64 := if 1 ≤ r ∧ r ≤ 63 then belO o r ||| oneW r.toNat else 0
def HrAt (F : Nat → Prop) (w : World) (v : Value) : Option OV → Prop
 | none => v = .pointer none
 | some o => ∃ ph po, v = .pointer (some ⟨ph, 0, none⟩) ∧ F ph ∧ At w ph 0 [.pointer (some ⟨po, 0, none⟩)] ∧ OdAt F w po o
def junH (H : Option OV) (r : Int) : W64 := match H with
 | none => 0
 | some o => junO o r
def closH (H : Option OV) (l : List Int) : W64 := l.foldl (fun x r => x ||| junH H r) 0
section
variable {F F' D : Nat → Prop} {γ : Prop} {w w' : World} {v : Value} {H : Option OV}
theorem HrAt.keep (h : HrAt F w v H) (x : Bel γ D w w') (hd : ∀ b, b < w.heap.size → F b → ¬ D b) : HrAt F w' v H := by
 cases H with
 | none => exact h
 | some o =>
  obtain ⟨ph, po, h1, h2, h3, h4⟩ := h
  exact ⟨ph, po, h1, h2, h3.keep x (hd ph h3.lt h2), h4.keep x hd⟩
theorem HrAt.ext (h : HrAt F w v H) (x : Ext γ w w') : HrAt F w' v H := h.keep x fun _ _ _ => id
theorem HrAt.mono (h : HrAt F w v H) (hd : ∀ b, b < w.heap.size → F b → F' b) : HrAt F' w v H := by
 cases H with
 | none => exact h
 | some o =>
  obtain ⟨ph, po, h1, h2, h3, h4⟩ := h
  exact ⟨ph, po, h1, hd ph h3.lt h2, h3, h4.mono hd⟩
end
end Go.Lx
/- The order of an acyclic relation: what the lists hold while elements are taken one after the other. No program in sight. -/
namespace Go.Lx
open Go
def lof {α : Type} (f : Nat → α) : List α := (List.range 64).map f
theorem lof_len {α : Type} (f : Nat → α) : (lof f).length = 64 := by simp [lof]
theorem lof_get {α : Type} (f : Nat → α) {i : Nat} (h : i < 64) : (lof f)[i]? = some (f i) := by simp [lof, h]
theorem lof_congr {α : Type} {f g : Nat → α} (h : ∀ i, i < 64 → f i = g i) : lof f = lof g := by
 unfold lof
 apply List.map_congr_left
 intro i hi
 exact h i (by simpa using hi)
theorem lof_set {α : Type} (f : Nat → α) (i : Nat) (v : α) : (lof f).set i v = lof fun j => if j = i then v else f j := by
 apply List.ext_getElem?
 intro j
 by_cases hj : j < 64
 ·rw [lof_get _ hj, List.getElem?_set]
  by_cases e : i = j
  ·subst e; simp [lof_len, hj]
  ·rw [if_neg e, lof_get _ hj, if_neg (fun h => e h.symm)]
 ·rw [List.getElem?_eq_none (by simp [lof_len]; omega), List.getElem?_eq_none (by simp [lof_len]; omega)]
theorem rep_lof {α : Type} (x : α) : List.replicate 64 x = lof fun _ => x := by
 apply List.ext_getElem?
 intro j
 by_cases hj : j < 64
 ·rw [lof_get _ hj, List.getElem?_replicate, if_pos hj]
 ·rw [List.getElem?_eq_none (by simp; omega), List.getElem?_eq_none (by simp [lof_len]; omega)]
theorem nodup_le {α : Type} [BEq α] [LawfulBEq α] : ∀ {l m : List α}, l.Nodup → (∀ x ∈ l, x ∈ m) → l.length ≤ m.length
 | [], m, _, _ => Nat.zero_le _
 | x :: l, m, h, hs => by
  obtain ⟨h1, h2⟩ := List.nodup_cons.1 h
  have hx := hs x (by simp)
  have := nodup_le (m := m.erase x) h2 (fun y hy => (List.mem_erase_of_ne (fun e : y = x => h1 (by rw [← e]; exact hy))).2 (hs y (by simp [hy])))
  rw [List.length_erase_of_mem hx] at this
  have := List.length_pos_of_mem hx
  simp; omega
theorem countP_split {α : Type} {p q r : α → Bool} : ∀ {l : List α}, (∀ x ∈ l, p x = (q x || r x) ∧ (q x && r x) = false) → l.countP p = l.countP q + l.countP r
 | [], _ => rfl
 | x :: l, h => by
  have ih := countP_split (l := l) (fun y hy => h y (by simp [hy]))
  obtain ⟨h1, h2⟩ := h x (by simp)
  simp only [List.countP_cons, ih, h1]
  cases hq : q x <;> cases hr : r x <;> simp_all <;> omega
def cIn (l : List Pr) (i : Nat) : Nat := l.countP fun x => x.2.val == i
def cOut (l : List Pr) (srt : List (Fin 64)) (i : Nat) : Nat := l.countP fun x => x.2.val == i && !srt.contains x.1
def cFrom (l : List Pr) (k : Fin 64) (i : Nat) : Nat := l.countP fun x => x.2.val == i && (x.1 == k)
theorem takeS {l : List Pr} {k : Nat} (h : k < l.length) : l.take (k + 1) = l.take k ++ [l.getD k pz0] := by
 rw [List.take_add_one, List.getElem?_eq_getElem h]
 simp [List.getD, List.getElem?_eq_getElem h]
theorem cIn_succ {l : List Pr} {k : Nat} (h : k < l.length) (i : Nat) : cIn (l.take (k + 1)) i = if i = (l.getD k pz0).2.val then cIn (l.take k) i + 1 else cIn (l.take k) i := by
 rw [takeS h, cIn, List.countP_append, ← cIn]
 generalize l.getD k pz0 = y
 by_cases e : i = y.2.val
 ·rw [if_pos e]; simp [List.countP_cons, e]
 ·rw [if_neg e]
  have : (y.2.val == i) = false := by simpa using fun h => e h.symm
  simp [List.countP_cons, this]
theorem cIn_set {l : List Pr} {k : Nat} (h : k < l.length) : (lof fun i => (cIn (l.take k) i : Int)).set (l.getD k pz0).2.val ((cIn (l.take k) (l.getD k pz0).2.val : Int) + 1) = lof fun i => (cIn (l.take (k + 1)) i : Int) := by
 rw [lof_set]
 apply lof_congr
 intro i _
 rw [cIn_succ h]
 by_cases e : i = (l.getD k pz0).2.val
 ·rw [if_pos e, if_pos e, e]; rfl
 ·rw [if_neg e, if_neg e]
theorem cFrom_succ {l : List Pr} {k : Nat} (h : k < l.length) (kk : Fin 64) (i : Nat) : cFrom (l.take (k + 1)) kk i = if (l.getD k pz0).1 = kk ∧ i = (l.getD k pz0).2.val then cFrom (l.take k) kk i + 1 else cFrom (l.take k) kk i := by
 rw [takeS h, cFrom, List.countP_append, ← cFrom]
 generalize l.getD k pz0 = y
 by_cases e : y.1 = kk ∧ i = y.2.val
 ·rw [if_pos e]; simp [List.countP_cons, e.1, e.2]
 ·rw [if_neg e]
  have : (y.2.val == i && (y.1 == kk)) = false := by
   cases h1 : (y.2.val == i && (y.1 == kk)) with
   | false => rfl
   | true =>
    simp at h1
    exact absurd ⟨h1.2, h1.1.symm⟩ e
  simp only [List.countP_cons, List.countP_nil, this]; simp
theorem c_le (l : List Pr) (p : Pr → Bool) : l.countP p ≤ l.length := List.countP_le_length
def lfA (ps : List Pr) (srt : List (Fin 64)) (i : Nat) : Int := if srt.any (fun j => j.val == i) then -1 else (cOut ps srt i : Int)
def lfB (ps : List Pr) (srt : List (Fin 64)) (kk : Fin 64) (k : Nat) (i : Nat) : Int := if (srt ++ [kk]).any (fun j => j.val == i) then -1 else (cOut ps srt i : Int) - (cFrom (ps.take k) kk i : Int)
structure Topo (ps : List Pr) (srt : List (Fin 64)) : Prop where
 nd : srt.Nodup
 up : ∀ i b, srt[i]? = some b → ∀ x ∈ ps, x.2 = b → ∃ j : Nat, j < i ∧ srt[j]? = some x.1
theorem Topo.nil (ps : List Pr) : Topo ps [] := ⟨List.nodup_nil, fun i b h => by simp at h⟩
theorem lfA_start (ps : List Pr) : (lof fun i => (cIn (ps.take ps.length) i : Int)) = lof (lfA ps []) := by
 apply lof_congr
 intro i _
 simp [lfA, cOut, cIn]
theorem any_val {srt : List (Fin 64)} {k : Fin 64} : (srt.any fun j => j.val == k.val) = srt.contains k := by
 rw [Bool.eq_iff_iff]
 simp only [List.any_eq_true, List.contains_iff_mem, beq_iff_eq]
 exact ⟨fun ⟨j, h1, h2⟩ => by rw [← Fin.ext h2]; exact h1, fun h => ⟨k, h, rfl⟩⟩
theorem zero_of {ps : List Pr} {srt : List (Fin 64)} {k : Fin 64} (h : lfA ps srt k.val = 0) : k ∉ srt ∧ ∀ x ∈ ps, x.2 = k → x.1 ∈ srt := by
 unfold lfA at h
 rw [any_val] at h
 cases hc : srt.contains k with
 | true => rw [hc] at h; simp at h
 | false =>
  rw [hc] at h
  simp only [Bool.false_eq_true, if_false] at h
  refine ⟨by simpa using hc, fun x hx e => ?_⟩
  have h0 : cOut ps srt k.val = 0 := by omega
  unfold cOut at h0
  rw [List.countP_eq_zero] at h0
  have := h0 x hx
  rw [e] at this
  simpa using this
theorem Topo.snoc {ps : List Pr} {srt : List (Fin 64)} {k : Fin 64} (h : Topo ps srt) (hz : lfA ps srt k.val = 0) : Topo ps (srt ++ [k]) := by
 obtain ⟨h1, h2⟩ := zero_of hz
 refine ⟨?_, ?_⟩
 ·rw [List.nodup_append]
  refine ⟨h.nd, by simp, fun a ha b hb => ?_⟩
  simp at hb; subst hb
  exact fun e => h1 (e ▸ ha)
 ·intro i b hi x hx e
  by_cases hl : i < srt.length
  ·rw [List.getElem?_append_left hl] at hi
   obtain ⟨j, hj, hs⟩ := h.up i b hi x hx e
   exact ⟨j, hj, by rw [List.getElem?_append_left (by omega)]; exact hs⟩
  ·have hi0 : i = srt.length := by
    have := (List.getElem?_eq_some_iff.1 hi).1
    simp at this; omega
   subst hi0
   simp at hi
   obtain ⟨j, hj, hs⟩ := List.mem_iff_getElem.1 (h2 x hx (e.trans hi.symm))
   exact ⟨j, hj, by rw [List.getElem?_append_left hj, List.getElem?_eq_getElem hj, hs]⟩
theorem zero_ex {ps : List Pr} {srt : List (Fin 64)} (ρ : Fin 64 → Nat) (hρ : ∀ x ∈ ps, ρ x.1 < ρ x.2) (hl : srt.length < 64) : ∃ k : Fin 64, lfA ps srt k.val = 0 := by
 have hex : ∃ k : Fin 64, k ∉ srt := by
  apply Classical.byContradiction
  intro hn
  have hall : ∀ k : Fin 64, k ∈ srt := fun k => Classical.byContradiction fun h => hn ⟨k, h⟩
  have := nodup_le (List.nodup_finRange 64) (fun k _ => hall k)
  simp at this; omega
 obtain ⟨m, ⟨k, hk, hm⟩, hmin⟩ := least_of (fun m => ∃ k : Fin 64, k ∉ srt ∧ ρ k = m) (by obtain ⟨k, hk⟩ := hex; exact ⟨ρ k, k, hk, rfl⟩)
 refine ⟨k, ?_⟩
 have hc : srt.contains k = false := by simpa using hk
 unfold lfA
 rw [any_val, hc]
 simp only [Bool.false_eq_true, if_false]
 have : cOut ps srt k.val = 0 := by
  unfold cOut
  rw [List.countP_eq_zero]
  intro x hx
  simp only [Bool.and_eq_true, beq_iff_eq, Bool.not_eq_true', not_and, Bool.not_eq_false]
  intro e
  have e' : x.2 = k := Fin.ext e
  apply Classical.byContradiction
  intro hx1
  have h1 : x.1 ∉ srt := by simpa using hx1
  have h2 := hmin (ρ x.1) ⟨x.1, h1, rfl⟩
  have h3 := hρ x hx
  rw [e'] at h3
  omega
 rw [this]; rfl
theorem ix_zero {f : Nat → Int} (h : ∃ k : Fin 64, f k.val = 0) : ∃ k : Fin 64, ixOf (fun y => (0 : Int) == y) (lof f) = (k.val : Int) ∧ f k.val = 0 := by
 unfold ixOf
 cases hx : (lof f).findIdx? (fun y => (0 : Int) == y) with
 | none =>
  obtain ⟨k, hk⟩ := h
  rw [List.findIdx?_eq_none_iff] at hx
  have := hx (f k.val) (List.mem_of_getElem? (lof_get f k.isLt))
  rw [hk] at this; simp at this
 | some i =>
  obtain ⟨h1, h2, _⟩ := List.findIdx?_eq_some_iff_getElem.1 hx
  rw [lof_len] at h1
  refine ⟨⟨i, h1⟩, rfl, ?_⟩
  have h3 : (lof f)[i]? = some (f i) := lof_get f h1
  rw [List.getElem?_eq_getElem (by rw [lof_len]; exact h1)] at h3
  simp only [Option.some.injEq] at h3
  rw [h3] at h2
  have : (0 : Int) = f i := by simpa using h2
  exact this.symm
theorem lfB_start (ps : List Pr) (srt : List (Fin 64)) (k : Fin 64) : ((lof (lfA ps srt)).set k.val (-1)) = lof (lfB ps srt k 0) := by
 rw [lof_set]
 apply lof_congr
 intro i hi
 unfold lfB lfA
 by_cases e : i = k.val
 ·subst e; simp
 ·rw [if_neg e]
  have : ((srt ++ [k]).any fun j => j.val == i) = srt.any fun j => j.val == i := by
   rw [List.any_append]
   have : (k.val == i) = false := by simpa using fun h => e h.symm
   simp [this]
  rw [this]
  simp [cFrom]
theorem lfB_end (ps : List Pr) (srt : List (Fin 64)) (k : Fin 64) (hk : k ∉ srt) : lof (lfB ps srt k ps.length) = lof (lfA ps (srt ++ [k])) := by
 apply lof_congr
 intro i hi
 unfold lfB lfA
 split
 ·rfl
 ·have : cOut ps srt i = cOut ps (srt ++ [k]) i + cFrom ps k i := by
   unfold cOut cFrom
   refine countP_split fun x _ => ?_
   have e1 : (srt ++ [k]).contains x.1 = (srt.contains x.1 || x.1 == k) := by
    rw [Bool.eq_iff_iff]; simp
   have e2 : (x.1 == k) = true → srt.contains x.1 = false := fun h => by
    have : x.1 = k := by simpa using h
    rw [this]; simpa using hk
   rw [e1]
   cases h1 : (x.2.val == i) <;> cases h2 : srt.contains x.1 <;> cases h3 : (x.1 == k) <;> simp_all
  rw [List.take_length]
  omega
theorem lfB_no {ps : List Pr} {srt : List (Fin 64)} {kk : Fin 64} {k : Nat} (h : k < ps.length) (hx : (ps.getD k pz0).1 ≠ kk) : lof (lfB ps srt kk (k + 1)) = lof (lfB ps srt kk k) := by
 apply lof_congr
 intro i hi
 unfold lfB
 have e := cFrom_succ h kk i
 rw [if_neg (fun h => hx h.1)] at e
 rw [e]
theorem lfB_yes {ps : List Pr} {srt : List (Fin 64)} {kk : Fin 64} {k : Nat} (ht : Topo ps srt) (hz : lfA ps srt kk.val = 0) (h : k < ps.length) (hx : (ps.getD k pz0).1 = kk) :
  (lof (lfB ps srt kk k)).set (ps.getD k pz0).2.val (lfB ps srt kk k (ps.getD k pz0).2.val - 1) = lof (lfB ps srt kk (k + 1)) := by
 obtain ⟨h1, h2⟩ := zero_of hz
 have hmem : ps.getD k pz0 ∈ ps := by
  rw [List.getD, List.getElem?_eq_getElem h]; exact List.getElem_mem h
 have hn : (ps.getD k pz0).2 ∉ srt ++ [kk] := by
  intro hm
  rcases List.mem_append.1 hm with hm | hm
  ·obtain ⟨i, hi, e⟩ := List.mem_iff_getElem.1 hm
   obtain ⟨j, hj, hs⟩ := ht.up i _ (by rw [List.getElem?_eq_getElem hi, e]) _ hmem rfl
   rw [hx] at hs
   exact h1 (List.mem_of_getElem? hs)
  ·have : (ps.getD k pz0).2 = kk := by simpa using hm
   exact h1 (hx ▸ h2 _ hmem this)
 rw [lof_set]
 apply lof_congr
 intro i hi
 by_cases e : i = (ps.getD k pz0).2.val
 ·subst e
  rw [if_pos rfl]
  have hc : ((srt ++ [kk]).any fun j => j.val == (ps.getD k pz0).2.val) = false := by rw [any_val]; simpa using hn
  unfold lfB
  have e := cFrom_succ h kk (ps.getD k pz0).2.val
  rw [if_pos ⟨hx, rfl⟩] at e
  rw [hc, e]
  simp only [Bool.false_eq_true, if_false]
  omega
 ·rw [if_neg e]
  unfold lfB
  have e2 := cFrom_succ h kk i
  rw [if_neg (fun h => e h.2)] at e2
  rw [e2]
theorem lfB_rng (ps : List Pr) (srt : List (Fin 64)) (kk : Fin 64) (k i : Nat) : -1 - (ps.length : Int) ≤ lfB ps srt kk k i ∧ lfB ps srt kk k i ≤ ps.length := by
 unfold lfB
 split
 ·omega
 ·have := c_le ps (fun x => x.2.val == i && !srt.contains x.1)
  have h2 := c_le (ps.take k) (fun x => x.2.val == i && (x.1 == kk))
  rw [List.length_take] at h2
  unfold cOut cFrom; omega
theorem Topo.all {ps : List Pr} {srt : List (Fin 64)} (h : Topo ps srt) (hl : 64 ≤ srt.length) : ∀ k, k ∈ srt := by
 intro k
 apply Classical.byContradiction
 intro hk
 have := nodup_le (List.nodup_cons.2 ⟨hk, h.nd⟩) (fun x _ => List.mem_finRange x)
 simp at this; omega
end Go.Lx
/- What lies above and below each element of an acyclic relation, element after element in its order. No program in sight. -/
namespace Go.Lx
open Go
inductive Rch (ps : List Pr) : Fin 64 → Fin 64 → Prop
 | one {a b : Fin 64} : (a, b) ∈ ps → Rch ps a b
 | snoc {a c b : Fin 64} : Rch ps a c → (c, b) ∈ ps → Rch ps a b
theorem rch_last {ps : List Pr} {c b : Fin 64} : Rch ps c b ↔ ∃ a, (a, b) ∈ ps ∧ (c = a ∨ Rch ps c a) := by
 constructor
 ·intro h
  cases h with
  | one h => exact ⟨c, h, .inl rfl⟩
  | snoc h1 h2 => exact ⟨_, h2, .inr h1⟩
 ·rintro ⟨a, h, rfl | h2⟩
  ·exact .one h
  ·exact .snoc h2 h
def dlO (ps : List Pr) (b : Fin 64) : List (Fin 64) := (ps.filter fun x => x.2 == b).map (·.1)
theorem mem_dl {ps : List Pr} {a b : Fin 64} : a ∈ dlO ps b ↔ (a, b) ∈ ps := by
 simp only [dlO, List.mem_map, List.mem_filter, beq_iff_eq]
 constructor
 ·rintro ⟨x, ⟨h1, h2⟩, h3⟩
  have : x = (a, b) := Prod.ext h3 h2
  exact this ▸ h1
 ·exact fun h => ⟨(a, b), ⟨h, rfl⟩, rfl⟩
theorem dl_succ {ps : List Pr} {k : Nat} (h : k < ps.length) (b : Fin 64) : dlO (ps.take (k + 1)) b = if b = (ps.getD k pz0).2 then dlO (ps.take k) b ++ [(ps.getD k pz0).1] else dlO (ps.take k) b := by
 rw [takeS h]
 generalize ps.getD k pz0 = y
 by_cases e : b = y.2
 ·rw [if_pos e]; simp [dlO, List.filter_append, e]
 ·rw [if_neg e]
  have : (y.2 == b) = false := by simpa using fun h => e h.symm
  simp [dlO, List.filter_append, List.filter_cons, this]
def xsO (la : List SV) (i : Nat) : W64 := (la.getD i sz).x
theorem xs_set {la : List SV} {i : Nat} {s : SV} (h : i < la.length) (t : Nat) : xsO (la.set i s) t = if t = i then s.x else xsO la t := by
 unfold xsO
 simp only [List.getD, List.getElem?_set]
 by_cases e : i = t
 ·subst e; simp [h]
 ·rw [if_neg e, if_neg (fun h => e h.symm)]
def AbOk (ps : List Pr) (srt : List (Fin 64)) (j : Nat) (f : Nat → W64) : Prop := ∀ b c : Fin 64, (f b.val).getLsbD c.val = true ↔ b ∈ srt.take j ∧ Rch ps c b
def BeOk (ps : List Pr) (srt : List (Fin 64)) (j : Nat) (f : Nat → W64) : Prop := ∀ a c : Fin 64, (f a.val).getLsbD c.val = true ↔ c ∈ srt.take j ∧ Rch ps a c
theorem AbOk.start {ps : List Pr} {srt : List (Fin 64)} {f : Nat → W64} (h : ∀ i, i < 64 → f i = 0) : AbOk ps srt 0 f := fun b c => by
 rw [h _ b.isLt]; simp
theorem BeOk.start {ps : List Pr} {srt : List (Fin 64)} {f : Nat → W64} (h : ∀ i, i < 64 → f i = 0) : BeOk ps srt 0 f := fun b c => by
 rw [h _ b.isLt]; simp
def upA (ps : List Pr) (f : Nat → W64) (b : Fin 64) (m : Nat) : W64 := ((dlO ps b).take m).foldl (fun x a => (x ||| f a.val) ||| oneW a.val) (f b.val)
theorem upA_zero (ps : List Pr) (f : Nat → W64) (b : Fin 64) : upA ps f b 0 = f b.val := rfl
theorem upA_succ {ps : List Pr} {f : Nat → W64} {b a : Fin 64} {m : Nat} (h : (dlO ps b)[m]? = some a) : upA ps f b (m + 1) = (upA ps f b m ||| f a.val) ||| oneW a.val := by
 have : (dlO ps b).take (m + 1) = (dlO ps b).take m ++ [a] := by rw [List.take_add_one, h]; rfl
 rw [upA, this, List.foldl_append]; rfl
theorem fold_bit (f : Nat → W64) (c : Fin 64) : ∀ (l : List (Fin 64)) (x : W64), (l.foldl (fun x a => (x ||| f a.val) ||| oneW a.val) x).getLsbD c.val = true ↔ x.getLsbD c.val = true ∨ ∃ a ∈ l, c = a ∨ (f a.val).getLsbD c.val = true
 | [], x => by simp
 | a :: l, x => by
  rw [List.foldl_cons, fold_bit f c l]
  have e : (oneW a.val).getLsbD c.val = decide (c = a) := by
   rw [oneW_get _ _ a.isLt]
   by_cases h : c = a
   ·subst h; simp
   ·have : c.val ≠ a.val := fun e => h (Fin.ext e)
    simp [h, this]
  simp only [BitVec.getLsbD_or, e, Bool.or_eq_true, decide_eq_true_eq, List.mem_cons]
  constructor
  ·rintro (((h | h) | h) | ⟨a', h1, h2⟩)
   ·exact .inl h
   ·exact .inr ⟨a, .inl rfl, .inr h⟩
   ·exact .inr ⟨a, .inl rfl, .inl h⟩
   ·exact .inr ⟨a', .inr h1, h2⟩
  ·rintro (h | ⟨a', rfl | h1, h2⟩)
   ·exact .inl (.inl (.inl h))
   ·rcases h2 with h2 | h2
    ·exact .inl (.inr h2)
    ·exact .inl (.inl (.inr h2))
   ·exact .inr ⟨a', h1, h2⟩
theorem take_snoc {α : Type} {l : List α} {j : Nat} {b : α} (h : l[j]? = some b) : l.take (j + 1) = l.take j ++ [b] := by rw [List.take_add_one, h]; rfl
theorem not_in_take {l : List (Fin 64)} (hn : l.Nodup) {j : Nat} {b : Fin 64} (h : l[j]? = some b) : b ∉ l.take j := by
 intro hm
 have h2 : (l.take (j + 1)).Nodup := hn.sublist (List.take_sublist _ _)
 rw [take_snoc h, List.nodup_append] at h2
 exact h2.2.2 b hm b (by simp) rfl
theorem AbOk.next {ps : List Pr} {srt : List (Fin 64)} {j : Nat} {b : Fin 64} {f g : Nat → W64} (h : AbOk ps srt j f) (ht : Topo ps srt) (hb : srt[j]? = some b) (hg : ∀ i, i < 64 → g i = if i = b.val then upA ps f b (dlO ps b).length else f i) : AbOk ps srt (j + 1) g := by
 intro b' c
 have hnb := not_in_take ht.nd hb
 rw [hg _ b'.isLt, take_snoc hb]
 by_cases e : b' = b
 ·subst e
  rw [if_pos rfl, upA, List.take_length, fold_bit]
  constructor
  ·rintro (h1 | ⟨a, ha, h1⟩)
   ·exact absurd ((h b' c).1 h1).1 hnb
   ·refine ⟨by simp, rch_last.2 ⟨a, mem_dl.1 ha, ?_⟩⟩
    rcases h1 with h1 | h1
    ·exact .inl h1
    ·exact .inr ((h a c).1 h1).2
  ·rintro ⟨_, h1⟩
   obtain ⟨a, ha, h2⟩ := rch_last.1 h1
   refine .inr ⟨a, mem_dl.2 ha, ?_⟩
   rcases h2 with h2 | h2
   ·exact .inl h2
   ·obtain ⟨i, hi, hs⟩ := ht.up j b' hb (a, b') ha rfl
    exact .inr ((h a c).2 ⟨by rw [List.mem_iff_getElem?]; exact ⟨i, by rw [List.getElem?_take, if_pos hi]; exact hs⟩, h2⟩)
 ·have : ¬ b'.val = b.val := fun e' => e (Fin.ext e')
  rw [if_neg this, h b' c]
  simp [e]
theorem mem_val {x : W64} {t : Fin 64} : ((t.val : Int) ∈ memW x 64) ↔ x.getLsbD t.val = true := by
 unfold memW
 simp only [List.mem_map, List.mem_filter, List.mem_range]
 constructor
 ·rintro ⟨i, ⟨_, h2⟩, h3⟩
  have : i = t.val := by omega
  exact this ▸ h2
 ·exact fun h => ⟨t.val, ⟨t.isLt, h⟩, rfl⟩
theorem BeOk.next {ps : List Pr} {srt : List (Fin 64)} {j : Nat} {b : Fin 64} {f g k : Nat → W64} (h : BeOk ps srt j f) (ht : Topo ps srt) (hb : srt[j]? = some b) (ha : AbOk ps srt (j + 1) k) (hg : ∀ i, i < 64 → g i = if (i : Int) ∈ memW (k b.val) 64 then f i ||| oneW b.val else f i) : BeOk ps srt (j + 1) g := by
 intro a c
 have hin : b ∈ srt.take (j + 1) := by rw [take_snoc hb]; simp
 have hm : ((a.val : Int) ∈ memW (k b.val) 64) ↔ Rch ps a b := by
  rw [mem_val, ha b a]; exact ⟨fun h => h.2, fun h => ⟨hin, h⟩⟩
 have e : (oneW b.val).getLsbD c.val = decide (c = b) := by
  rw [oneW_get _ _ b.isLt]
  by_cases h : c = b
  ·subst h; simp
  ·have : c.val ≠ b.val := fun e => h (Fin.ext e)
   simp [h, this]
 rw [hg _ a.isLt, take_snoc hb]
 by_cases hr : Rch ps a b
 ·rw [if_pos (hm.2 hr)]
  simp only [BitVec.getLsbD_or, e, Bool.or_eq_true, decide_eq_true_eq, h a c, List.mem_append, List.mem_singleton]
  constructor
  ·rintro (⟨h1, h2⟩ | rfl)
   ·exact ⟨.inl h1, h2⟩
   ·exact ⟨.inr rfl, hr⟩
  ·rintro ⟨h1 | h1, h2⟩
   ·exact .inl ⟨h1, h2⟩
   ·exact .inr h1
 ·rw [if_neg (fun h => hr (hm.1 h)), h a c]
  simp only [List.mem_append, List.mem_singleton]
  constructor
  ·rintro ⟨h1, h2⟩; exact ⟨.inl h1, h2⟩
  ·rintro ⟨h1 | rfl, h2⟩
   ·exact ⟨h1, h2⟩
   ·exact absurd h2 hr
def BelS (ps : List Pr) (f : Nat → W64) : Prop := ∀ a c : Fin 64, (f a.val).getLsbD c.val = true ↔ Rch ps a c
theorem BeOk.done {ps : List Pr} {srt : List (Fin 64)} {f : Nat → W64} (h : BeOk ps srt 64 f) (ht : Topo ps srt) (hl : srt.length = 64) : BelS ps f := fun a c => by
 rw [h a c, List.take_of_length_le (by omega)]
 exact ⟨fun h => h.2, fun h => ⟨ht.all (by omega) c, h⟩⟩
def AboS (ps : List Pr) (f : Nat → W64) : Prop := ∀ b c : Fin 64, (f b.val).getLsbD c.val = true ↔ Rch ps c b
theorem AbOk.done {ps : List Pr} {srt : List (Fin 64)} {f : Nat → W64} (h : AbOk ps srt 64 f) (ht : Topo ps srt) (hl : srt.length = 64) : AboS ps f := fun b c => by
 rw [h b c, List.take_of_length_le (by omega)]
 exact ⟨fun h => h.2, fun h => ⟨ht.all (by omega) b, h⟩⟩
theorem be_step {l : List Int} {i : Nat} {y : Int} (hn : l.Nodup) (h : l[i]? = some y) (f : Nat → W64) (b : Nat) (t : Nat) :
  (if (t : Int) ∈ l.take (i + 1) then f t ||| oneW b else f t) = if (t : Int) = y then f t ||| oneW b else if (t : Int) ∈ l.take i then f t ||| oneW b else f t := by
 rw [take_snoc h]
 by_cases e : (t : Int) = y
 ·simp [e]
 ·simp [e]
end Go.Lx
/- Slices that are made in a region that draws; a slice of own slices, their blocks apart; what holds cells is not touched where marks are shut. Nothing of a program stands here. -/
namespace Go.Lx
open Go Go.RowKit
section
variable {α : Type} {enc : α → List Value} {s : Nat} {T e : TypeId} {by_ : Nat} {z : Value} {β : Prop} {P : Program} {fr : Fr} {w : World} {c : Nat → Nat} {ops : Array Oper} {d : Nat} {ty : TypeId} {pos : String} {after : Array Edge} {kc : Nat}
theorem OpC_make {x y : Operand} {m : Nat} (x0 : α) (he : EncOk enc s) (ht : ElT P T e s by_ z) (hz : z.cells.toList = enc x0) (hx : ev fr x = .int .i64 (m : Int)) (hy : ev fr y = .int .i64 (m : Int)) (hb : m * by_ ≤ 140737488355328) :
  OpC β kc P ops ⟨some d, .makeSlice T x y, ty, pos, after, none⟩ fr w c (fun v w c => ∃ a, v = .slice a m m ∧ postOwn enc s e kc (List.replicate m x0) v w c) := by
 obtain ⟨i, hi, hzz, hs, hby⟩ := ht.inf
 have hm : m ≤ 140737488355328 := Nat.le_trans (Nat.le_mul_of_pos_right _ ht.bp) hb
 have hbi : (i.bytes : Int) * (m : Int) ≤ 281474976710656 := by
  rw [hby, ← Int.natCast_mul, Nat.mul_comm]; omega
 have hr := run_make (P := P) w T e i z ht.sl hi hzz .i64 .i64 (m : Int) (m : Int) (by omega) (Int.le_refl _) hbi (by omega)
 rw [hs] at hr
 simp only [Int.toNat_natCast] at hr
 refine .inl ⟨rfl, .inl ⟨.slice (some ⟨w.heap.size, 0, none⟩) m m, w.alloc (.cells (madeCells z.cells (m * s)) e), newC c w kc, .inl ⟨?_, rfl⟩, StepC.ext (Ext.alloc _ _) fun _ hb => newC_old hb, _, rfl, ⟨⟨by rw [fm_len he], .inr ⟨w.heap.size, m, _, by simp, Nat.zero_le _, heap_alloc_new w _, by simp, by unfold maxLen; omega, size_madeCells _ _, ?_⟩⟩, ?_⟩⟩⟩
 ·simp [execOp, hx, hy, hr]
 ·rw [madeCells_rep (x := x0) he hz, List.take_of_length_le (by rw [fm_len he]; simp)]
 ·intro g hg
  simp [Value.ownBlock] at hg
  subst hg
  exact newC_new (Nat.le_refl _)
end
theorem Own.notBox {α : Type} {enc : α → List Value} {k : Nat} {D : Nat → Prop} {e T : TypeId} {w : World} {v : Value} {l : List α} {b : Nat} {cs : List Value} (h : Own enc k e D w v l) (hb : Box w b T cs) (hne : e ≠ T) : ∀ g, v.ownBlock = some g → g ≠ b := by
 intro g hg e1
 subst e1
 rcases h.row.2 with ⟨h1, _⟩ | ⟨g', cap, cur, h1, _, h3, _⟩
 ·rw [h1] at hg; simp [Value.ownBlock] at hg
 ·rw [h1] at hg
  simp [Value.ownBlock] at hg
  subst hg
  have : w.heap[g']? = some (.cells cs.toArray T) := hb
  rw [this] at h3
  simp at h3
  exact hne h3.2.symm
def postNew {α : Type} (enc : α → List Value) (s : Nat) (e : TypeId) (w0 : World) (n : Nat) (l : List α) : PostC := fun v w c => ∃ g, v = .slice (some ⟨g, 0, none⟩) n n ∧ w0.heap.size ≤ g ∧ c g = 0 ∧ Own enc s e (fun b => b = g) w v l
theorem postNew_stable {α : Type} {enc : α → List Value} {s n : Nat} {e : TypeId} {w0 : World} {l : List α} {kc : Nat} : StableC kc (postNew enc s e w0 n l) := by
 rintro v w c w' c' q hq hx ⟨g, h1, h2, h3, h4⟩
 subst h1
 have hlt : g < w.heap.size := h4.lt g rfl
 exact ⟨g, rfl, h2, (hx.col g hlt).trans h3, h4.keepD hx.bel fun b _ hb hd => hd.1 (by rw [← hd.2, hb]; exact h3)⟩
theorem OpC_new {α : Type} {enc : α → List Value} {s : Nat} {T e : TypeId} {by_ : Nat} {z : Value} {β : Prop} {P : Program} {fr : Fr} {w w0 : World} {c : Nat → Nat} {ops : Array Oper} {d : Nat} {ty : TypeId} {pos : String} {after : Array Edge} {x y : Operand} {m : Nat} (x0 : α) (hw : w0.heap.size ≤ w.heap.size) (he : EncOk enc s) (ht : ElT P T e s by_ z) (hz : z.cells.toList = enc x0) (hx : ev fr x = .int .i64 (m : Int)) (hy : ev fr y = .int .i64 (m : Int)) (hb : m * by_ ≤ 140737488355328) :
  OpC β 0 P ops ⟨some d, .makeSlice T x y, ty, pos, after, none⟩ fr w c (postNew enc s e w0 m (List.replicate m x0)) := by
 obtain ⟨i, hi, hzz, hs, hby⟩ := ht.inf
 have hm : m ≤ 140737488355328 := Nat.le_trans (Nat.le_mul_of_pos_right _ ht.bp) hb
 have hbi : (i.bytes : Int) * (m : Int) ≤ 281474976710656 := by
  rw [hby, ← Int.natCast_mul, Nat.mul_comm]; omega
 have hr := run_make (P := P) w T e i z ht.sl hi hzz .i64 .i64 (m : Int) (m : Int) (by omega) (Int.le_refl _) hbi (by omega)
 rw [hs] at hr
 simp only [Int.toNat_natCast] at hr
 refine .inl ⟨rfl, .inl ⟨.slice (some ⟨w.heap.size, 0, none⟩) m m, w.alloc (.cells (madeCells z.cells (m * s)) e), newC c w 0, .inl ⟨?_, rfl⟩, StepC.ext (Ext.alloc _ _) fun _ hb => newC_old hb, w.heap.size, rfl, hw, newC_new (Nat.le_refl _), ⟨⟨by rw [fm_len he], .inr ⟨w.heap.size, m, _, by simp, Nat.zero_le _, heap_alloc_new w _, by simp, by unfold maxLen; omega, size_madeCells _ _, ?_⟩⟩, ?_⟩⟩⟩
 ·simp [execOp, hx, hy, hr]
 ·rw [madeCells_rep (x := x0) he hz, List.take_of_length_le (by rw [fm_len he]; simp)]
 ·intro g hg
  simp [Value.ownBlock] at hg
  exact hg.symm
def postSt {α : Type} (enc : α → List Value) (s : Nat) (e : TypeId) (w0 : World) (n : Nat) (l : List α) (po kc : Nat) (T : TypeId) (cs : Value → List Value) : PostC := fun _ w c => ∃ g, (Box w po T (cs (.slice (some ⟨g, 0, none⟩) n n)) ∧ c po = kc) ∧ w0.heap.size ≤ g ∧ c g = 0 ∧ Own enc s e (fun b => b = g) w (.slice (some ⟨g, 0, none⟩) n n) l
theorem postSt_stable {α : Type} {enc : α → List Value} {s n : Nat} {e T : TypeId} {w0 : World} {l : List α} {po kc : Nat} {cs : Value → List Value} : StableC kc (postSt enc s e w0 n l po kc T cs) := by
 rintro v w c w' c' q hq hx ⟨g, h1, h2, h3, h4⟩
 have hlt : g < w.heap.size := h4.lt g rfl
 exact ⟨g, postAt_stable v w c w' c' q hq hx h1, h2, (hx.col g hlt).trans h3, h4.keepD hx.bel fun b _ hb hd => hd.1 (by rw [← hd.2, hb]; exact h3)⟩
theorem OpC_storeNew {α : Type} {enc : α → List Value} {s n : Nat} {e U T : TypeId} {β : Prop} {P : Program} {fr : Fr} {w w0 : World} {c : Nat → Nat} {ops : Array Oper} {ty : TypeId} {pos : String} {after : Array Edge} {kc : Nat} {x y : Operand} {b off g : Nat} {cs : List Value} {l : List α} {f : Value → List Value} (h0 : kc ≠ 0)
  (hs : ∀ w, (sizeOf U).run P w = .ok 1 w) (hx : ev fr x = .pointer (some ⟨b, off, none⟩)) (hy : ev fr y = .slice (some ⟨g, 0, none⟩) n n) (hb : Box w b T cs) (hc : c b = kc) (hle : Nat.ble (off + 1) cs.length = true) (hw : w0.heap.size ≤ g) (hcg : c g = 0) (ho : Own enc s e (fun b => b = g) w (.slice (some ⟨g, 0, none⟩) n n) l) (hne : e ≠ T) (hf : splice cs off [.slice (some ⟨g, 0, none⟩) n n] = f (.slice (some ⟨g, 0, none⟩) n n)) :
  OpC β kc P ops ⟨none, .store U x y, ty, pos, after, none⟩ fr w c (postSt enc s e w0 n l b kc T f) := by
 have hst := run_storeCells_at (P := P) b off T (Value.slice (some ⟨g, 0, none⟩) n n).cells.toList 0 cs.toArray w hb (by rw [List.size_toArray]; exact (by simpa using hle : off + 1 ≤ cs.length)) (oneL.mem rfl)
 simp only [Nat.add_zero] at hst
 refine .inl ⟨rfl, .inl ⟨lkV _ fr, w.setRow b (cs.toArray.toList.take off ++ (Value.slice (some ⟨g, 0, none⟩) n n).cells.toList ++ cs.toArray.toList.drop (off + (Value.slice (some ⟨g, 0, none⟩) n n).cells.toList.length)).toArray, c, .inr ⟨?_, rfl⟩, ⟨⟨rfl, rfl, rfl, by simp, fun j _ hj => setRow_other w b j _ (fun e => hj ⟨h0, by subst e; exact hc⟩), fun _ => Nat.le_refl _⟩, fun _ _ => rfl⟩, g, ⟨?_, hc⟩, hw, hcg, ho.blk (fun g2 _ hg => setRow_other w b g2 _ (ho.notBox hb hne g2 hg)) (fun g2 _ hg => ho.loc g2 hg)⟩⟩
 ·simp only [execOp, hx, hy, Instr.storeAt, Instr.sureAddr, storeVar, Sem.run_bind, Sem.run_pure, Result.andThen_ok, hs]
  simp [hst]
  rfl
 ·rw [← hf]; exact setRow_heap w b cs.toArray _ T _ hb
section
variable {α : Type} {enc : α → List Value} {k : Nat} {D : Nat → Prop} {e : TypeId} {w w' : World} {l : List α}
theorem Own.block {a : Option Addr} {m c : Nat} (h : Own enc k e D w (.slice a m c) l) (hm : 0 < m) : ∃ g, a = some ⟨g, 0, none⟩ ∧ D g ∧ g < w.heap.size ∧ Own enc k e (fun b => b = g) w (.slice (some ⟨g, 0, none⟩) m c) l := by
 rcases h.row.2 with ⟨h1, h2⟩ | ⟨g, cap, cur, h1, h2, h3, h4⟩
 ·simp at h1; omega
 ·have h0 := h1
  simp at h1
  obtain ⟨rfl, _, _⟩ := h1
  have hb : (Value.slice (some ⟨g, 0, none⟩) m c).ownBlock = some g := rfl
  exact ⟨g, rfl, h.loc g hb, h.lt g hb, h.at fun b _ hb' => by simp [Value.ownBlock] at hb'; exact hb'.symm⟩
theorem shut_heap : ∀ {ms : List Nat} {w : World} {b : Nat} {o : Obj}, Mks w ms → w.heap[b]? = some o → o ≠ .deferred (some []) → (shut w ms).heap[b]? = some o
 | [], _, _, _, _, h, _ => h
 | m :: r, w, b, o, hm, h, ho => by
  have hne : b ≠ m := fun e => ho (by rw [e, hm.2.1] at h; simpa using h.symm)
  have hk : Mks (w.putObj m (.deferred none)) r := hm.2.2.keep fun c hc => World.putObj_heap_other (fun e : c = m => hm.1 (by rw [← e]; exact hc))
  exact shut_heap (w := w.putObj m (.deferred none)) hk ((World.putObj_heap_other hne).trans h) ho
theorem Box.shut {ms : List Nat} {b : Nat} {T : TypeId} {cs : List Value} (h : Box w b T cs) (hm : Mks w ms) : Box (shut w ms) b T cs := shut_heap hm h (fun e => by cases e)
theorem Own.shut {ms : List Nat} {v : Value} (h : Own enc k e D w v l) (hm : Mks w ms) : Own enc k e D (shut w ms) v l := by
 refine ⟨⟨h.row.1, ?_⟩, h.loc⟩
 rcases h.row.2 with h' | ⟨g, cap, cur, h1, h2, h3, h4⟩
 ·exact .inl h'
 ·exact .inr ⟨g, cap, cur, h1, h2, shut_heap hm h3 (fun e => by cases e), h4⟩
end
def encF (x : Fin 64) : List Value := [.int .i64 (iv x)]
theorem encF_ok : EncOk encF 1 := ⟨by decide, fun _ => rfl, fun x u hu => by simp [encF] at hu; subst hu; rfl⟩
theorem sl_F {F : Nat → Prop} {w : World} {a : Option Addr} {c : Nat} {l : List (Fin 64)} (h : Sl encJ 1 F w a c (l.map iv)) : Sl encF 1 F w a c l :=
 ⟨by have := h.le; rwa [List.length_map] at this, h.cap, h.nil, fun i x hi => h.el i (iv x) (by rw [List.getElem?_map, hi]; rfl)⟩
structure DV where
 a : Option Addr
 c : Nat
 l : List (Fin 64)
def DV.v (d : DV) : Value := .slice d.a d.l.length d.c
def encDV (d : DV) : List Value := [.slice d.a d.l.length d.c]
theorem encDV_ok : EncOk encDV 1 := ⟨by decide, fun _ => rfl, fun x u hu => by simp [encDV] at hu; subst hu; rfl⟩
def dz : DV := ⟨none, 0, []⟩
def DirO (e : TypeId) (D : Nat → Prop) (w : World) (ds : List DV) : Prop := ∀ (i : Nat) (d : DV), ds[i]? = some d → Own encF 1 e D w d.v d.l ∧ ∀ (j : Nat) (d' : DV), ds[j]? = some d' → i ≠ j → ∀ g, d.v.ownBlock = some g → d'.v.ownBlock ≠ some g
section
variable {e : TypeId} {D : Nat → Prop} {w w' : World} {ds : List DV}
theorem DirO.start {n : Nat} : DirO e D w (List.replicate n dz) := by
 intro i d h
 have : d = dz := by
  have := List.mem_of_getElem? h
  simp at this; exact this.2
 subst this
 exact ⟨Own.nil _ _, fun j d' _ _ g hg => by simp [DV.v, dz, Value.ownBlock] at hg⟩
theorem DirO.keep {γ : Prop} {D' : Nat → Prop} (h : DirO e D w ds) (x : Bel γ D' w w') (hd : ∀ g, g < w.heap.size → D g → ¬ D' g) : DirO e D w' ds := fun i d hi => ⟨(h i d hi).1.keepD x hd, (h i d hi).2⟩
theorem DirO.ext {γ : Prop} (h : DirO e D w ds) (x : Ext γ w w') : DirO e D w' ds := h.keep x fun _ _ _ => id
theorem DirO.set {i : Nat} {d d' : DV} (h : DirO e D w ds) (hi : ds[i]? = some d) (hD : ∀ g, w.heap.size ≤ g → D g) (x : Bel False (fun g => d.v.ownBlock = some g ∨ w.heap.size ≤ g) w w') (ho : Own encF 1 e (fun g => d.v.ownBlock = some g ∨ w.heap.size ≤ g) w' d'.v d'.l) : DirO e D w' (ds.set i d') := by
 have hlt : i < ds.length := (List.getElem?_eq_some_iff.1 hi).1
 have hold : ∀ j d2, j ≠ i → ds[j]? = some d2 → Own encF 1 e D w' d2.v d2.l ∧ (∀ g, d2.v.ownBlock = some g → g < w.heap.size ∧ d.v.ownBlock ≠ some g) := by
  intro j d2 hj h2
  obtain ⟨h3, h4⟩ := h j d2 h2
  have hb : ∀ g, d2.v.ownBlock = some g → g < w.heap.size ∧ d.v.ownBlock ≠ some g := fun g hg => ⟨h3.lt g hg, h4 i d hi hj g hg⟩
  exact ⟨h3.keep x fun g hl hg hq => by
   rcases hq with hq | hq
   ·exact (hb g hg).2 hq
   ·omega, hb⟩
 have hnew : ∀ g, d'.v.ownBlock = some g → d.v.ownBlock = some g ∨ w.heap.size ≤ g := fun g hg => ho.loc g hg
 intro j d2 hj
 rw [List.getElem?_set] at hj
 by_cases ej : i = j
 ·subst ej
  rw [if_pos rfl, if_pos hlt] at hj
  simp only [Option.some.injEq] at hj
  subst hj
  refine ⟨ho.mono fun g hg hq => ?_, fun j2 d3 h3 hne g hg hg3 => ?_⟩
  ·rcases hq with hq | hq
   ·exact (h i d hi).1.loc g hq
   ·exact hD g hq
  ·rw [List.getElem?_set, if_neg hne] at h3
   have := (hold j2 d3 (fun e => hne e.symm) h3).2 g hg3
   rcases hnew g hg with hq | hq
   ·exact this.2 hq
   ·omega
 ·rw [if_neg ej] at hj
  obtain ⟨h1, h2⟩ := hold j d2 (fun e => ej e.symm) hj
  refine ⟨h1, fun j2 d3 h3 hne g hg hg3 => ?_⟩
  rw [List.getElem?_set] at h3
  by_cases e2 : i = j2
  ·subst e2
   rw [if_pos rfl, if_pos hlt] at h3
   simp only [Option.some.injEq] at h3
   subst h3
   rcases hnew g hg3 with hq | hq
   ·exact (h2 g hg).2 hq
   ·have := (h2 g hg).1; omega
  ·rw [if_neg e2] at h3
   exact (h j d2 hj).2 j2 d3 h3 hne g hg hg3
end
theorem dl_len (ps : List Pr) (k : Nat) (b : Fin 64) : (dlO (ps.take k) b).length ≤ ps.length := by
 unfold dlO
 rw [List.length_map]
 refine Nat.le_trans (List.length_filter_le _ _) ?_
 rw [List.length_take]; omega
theorem ds_set {ps : List Pr} {ds : List DV} {k : Nat} (h : k < ps.length) (hdl : ds.length = 64) (hds : ∀ b : Fin 64, (ds.getD b.val dz).l = dlO (ps.take k) b) (a : Option Addr) (c : Nat) :
  ∀ b : Fin 64, ((ds.set (ps.getD k pz0).2.val ⟨a, c, (ds.getD (ps.getD k pz0).2.val dz).l ++ [(ps.getD k pz0).1]⟩).getD b.val dz).l = dlO (ps.take (k + 1)) b := by
 intro b
 rw [dl_succ h]
 generalize ps.getD k pz0 = y
 simp only [List.getD, List.getElem?_set]
 by_cases e : b = y.2
 ·subst e
  have hl : y.2.val < ds.length := by have := y.2.isLt; omega
  have := hds y.2
  simp only [List.getD, List.getElem?_eq_getElem hl, Option.getD_some] at this
  simp [hl, this]
 ·have : ¬ y.2.val = b.val := fun e' => e (Fin.ext e'.symm)
  rw [if_neg this, if_neg e]
  exact hds b
theorem DirO.mono {e : TypeId} {D D' : Nat → Prop} {w : World} {ds : List DV} (h : DirO e D w ds) (hd : ∀ g, g < w.heap.size → D g → D' g) : DirO e D' w ds := fun i d hi => ⟨(h i d hi).1.mono hd, (h i d hi).2⟩
theorem wds_rep {F : Nat → Prop} {w : World} {n : Nat} : WdsAt F w (List.replicate n sz) := fun s hs => by
 have : s = sz := (List.mem_replicate.1 hs).2
 subst this
 exact Sl.none
theorem xs_rep {i : Nat} : xsO (List.replicate 64 sz) i = 0 := by
 unfold xsO
 simp only [List.getD, List.getElem?_replicate]
 split <;> rfl
theorem WdsAt.set {F : Nat → Prop} {w : World} {l : List SV} {i : Nat} {s : SV} (h : WdsAt F w l) (hs : Sl encU 1 F w s.a s.c (wl s.x)) : WdsAt F w (l.set i s) := fun t ht => by
 rcases List.mem_or_eq_of_mem_set ht with ht | rfl
 ·exact h t ht
 ·exact hs
theorem cell_shut {ms : List Nat} {w : World} {p : Addr} {v : Value} (h : w.cell? p = some v) (hm : Mks w ms) : (shut w ms).cell? p = some v := by
 have hlt := World.block_lt_of_cell? w p (by rw [h])
 obtain ⟨o, ho⟩ : ∃ o, w.heap[p.block]? = some o := ⟨_, Array.getElem?_eq_getElem hlt⟩
 by_cases e : o = .deferred (some [])
 ·subst e
  unfold World.cell? at h
  rw [ho] at h
  cases h
 ·rw [World.cell?_of_block (w := w) (a := p) ((shut_heap hm ho e).trans ho.symm)]
  exact h
theorem At.shut {ms : List Nat} {w : World} {b off : Nat} {cs : List Value} (h : At w b off cs) (hm : Mks w ms) : At (shut w ms) b off cs := fun i v hi => cell_shut (h i v hi) hm
theorem shut_size : ∀ (ms : List Nat) (w : World), (shut w ms).heap.size = w.heap.size
 | [], _ => rfl
 | b :: r, w => (shut_size r _).trans (by simp [World.putObj])
theorem Sl.shut {α : Type} {enc : α → List Value} {k c : Nat} {F : Nat → Prop} {ms : List Nat} {w : World} {a : Option Addr} {l : List α} (h : Sl enc k F w a c l) (hm : Mks w ms) : Sl enc k F (shut w ms) a c l :=
 ⟨h.le, h.cap, h.nil, fun i x hi => by
  obtain ⟨b, off, h1, h2, h3, h4⟩ := h.el i x hi
  exact ⟨b, off, h1, ⟨h2.1, by rw [shut_size]; exact h2.2⟩, h3.shut hm, h4⟩⟩
theorem WdsAt.shut {F : Nat → Prop} {ms : List Nat} {w : World} {l : List SV} (h : WdsAt F w l) (hm : Mks w ms) : WdsAt F (shut w ms) l := fun s hs => (h s hs).shut hm
theorem ds_start (ps : List Pr) : ∀ b : Fin 64, ((List.replicate 64 dz).getD b.val dz).l = dlO (ps.take 0) b := fun b => by
 simp only [List.getD, List.getElem?_replicate]
 split <;> rfl
theorem memW_nodup (x : W64) : (memW x 64).Nodup := by
 unfold memW
 refine List.Pairwise.map _ (fun a b (h : a ≠ b) => fun e => h (by omega)) ?_
 exact List.Pairwise.filter _ List.nodup_range
theorem not_in_takeA {α : Type} {l : List α} (hn : l.Nodup) {j : Nat} {b : α} (h : l[j]? = some b) : b ∉ l.take j := by
 intro hm
 have h2 : (l.take (j + 1)).Nodup := hn.sublist (List.take_sublist _ _)
 rw [take_snoc h, List.nodup_append] at h2
 exact h2.2.2 b hm b (by simp) rfl
