/- A range over a function: what an iterator must do, and the rule for the statement. No round is left early here. Nothing of a program stands here. -/
import Derived.Test.YtncmjgmlnnenhaaDoorOwn2
import Derived.RangeFuncIn
import Derived.RangeFuncRecord
namespace Go.Lx
open Go Go.RowKit
set_option linter.unusedSimpArgs false
set_option linter.unusedVariables false
set_option linter.unnecessarySimpa false
/-- A call of yield with these arguments. -/
def Yl (P : Program) (l : Nat) (args : Array Value) (u : World) (R : Ending → World → Prop) : Prop :=
  ∀ N, ∃ fn tmps assign body, (Instr.yield l args).run P u = .ok (.round l fn tmps assign body) u ∧ RoundIn (Fw none) N P l fn tmps assign body u R
/-- The iterator gf, with what it has captured: from whatever world later than w0 it yields xs, one after the other; a round may write blocks of D. -/
def Iter {α : Type} (P : Program) (gf : Nat) (lb : Array Value) (D : Nat → Prop) (w0 : World) (xs : List α) (enc : α → Value) : Prop :=
  ∀ (l : Nat) (J : Nat → World → Prop) (u : World), Ext False w0 u → (∀ i a b, J i a → Ext False a b → J i b) →
    (∀ i x a, xs[i]? = some x → J i a → Yl P l #[enc x] a fun e b => e = .returned (.bool true) ∧ J (i + 1) b ∧ Bel False D a b) →
    J 0 u → Ok P gf (#[.func (.yield l) #[] #[]] ++ lb) u fun _ b => J xs.length b
def Fr.mark (fr : Fr) (b : Nat) : Fr := ⟨fr.sl, mkD b :: fr.ds⟩
/-- The frame of a round. -/
def Fr.bare (fr : Fr) : Fr := ⟨fr.sl, []⟩
theorem Bel.putObj {w : World} {b : Nat} {o : Obj} {D : Nat → Prop} (hD : D b) : Bel False D w (w.putObj b o) :=
  ⟨rfl, rfl, rfl, by simp [World.putObj], fun c _ hc => World.putObj_heap_other (fun e => hc (e ▸ hD)), False.elim⟩
theorem shut_bel : ∀ (l : List Nat) (w : World), Bel False (fun g => g ∈ l) w (shut w l)
  | [], w => Bel.refl _ _
  | b :: r, w => (Bel.putObj (o := .deferred none) (D := fun g => g ∈ b :: r) (List.mem_cons_self)).tr (shut_bel r _) (fun _ _ h => h) (fun _ _ h => List.mem_cons_of_mem _ h)
theorem Mks.kp {γ : Prop} {D : Nat → Prop} {w w' : World} : ∀ {l : List Nat}, Mks w l → Bel γ D w w' → (∀ b, b ∈ l → b < w.heap.size → ¬ D b) → Mks w' l
  | [], _, _, _ => trivial
  | b :: r, h, x, hd => ⟨h.1, (x.block b (Array.getElem?_eq_some_iff.1 h.2.1).1 (hd b List.mem_cons_self (Array.getElem?_eq_some_iff.1 h.2.1).1)).trans h.2.1, Mks.kp h.2.2 x (fun c hc => hd c (List.mem_cons_of_mem _ hc))⟩
theorem Mks.lt {w : World} : ∀ {l : List Nat}, Mks w l → ∀ b, b ∈ l → b < w.heap.size
  | [], _, b, hb => by simp at hb
  | c :: r, h, b, hb => by
    rcases List.mem_cons.1 hb with rfl | hb
    · exact (Array.getElem?_eq_some_iff.1 h.2.1).1
    · exact Mks.lt h.2.2 b hb
theorem Mks.ext {γ : Prop} {w w' : World} {l : List Nat} (h : Mks w l) (x : Ext γ w w') : Mks w' l := h.kp x fun _ _ _ => id
theorem Ext.alloc2 (w : World) (o o' : Obj) : Ext False w ((w.alloc o).alloc o') := (Ext.alloc w o).ex (Ext.alloc (w.alloc o) o')
theorem W_range {α : Type} {P : Program} {n : Nat} {K : Fr → World → Prop} {E : Nat → Fr → World → Prop} {R : Fr → World → Prop} {fr : Fr} {w : World} {g : Operand} {p : Nat} {assign body : Code} {gf : Nat} {lb : Array Value}
    (xs : List α) (enc : α → Value) (D : Nat → Prop) (I : Nat → World → Prop) (hp : dstOk n (some p) = true)
    (hg : ev fr g = .func (.func gf) #[] lb) (eg : ∀ args w, (callFunc gf args).run P w = .ok (.enter gf args) w)
    (it : Iter P gf lb (fun b => D b ∨ w.heap.size ≤ b) w xs enc) (hD : ∀ b, D b → b < w.heap.size)
    (hI : ∀ i a b, w.heap.size + 2 ≤ a.heap.size → I i a → Bel False (fun b => b = w.heap.size + 1) a b → I i b)
    (h0 : ∀ a, Ext False w a → a.heap.size = w.heap.size + 2 → I 0 a)
    (hb : ∀ l i x a, xs[i]? = some x → w.heap.size + 2 ≤ a.heap.size → I i a →
      W (some l) P n assign (fun f1 a1 => Ext False a a1 ∧ ∀ a2, Bel False (fun b => b = w.heap.size + 1) a1 a2 → W (some l) P n body (fun _ b => Bel False D a2 b ∧ I (i + 1) b) (fun _ _ _ => False) (fun _ _ => False) f1 a2) (fun _ _ _ => False) (fun _ _ => False) (fr.bare.set p (enc x)) a)
    (hk : ∀ a, w.heap.size + 2 ≤ a.heap.size → I xs.length a → a.heap[w.heap.size]? = some (.deferred (some [])) → K (fr.mark w.heap.size) a) :
    W none P n (.rangeFunc g #[p] assign body) K E R fr w := by
  intro N a ha
  have hev : a.eval g = .func (.func gf) #[] lb := by rw [ev_eq ha]; exact hg
  refine wpIn_rangeFunc ?_
  intro fn hfn
  obtain ⟨rec, hrec⟩ : ∃ rec : LoopState → Option Code → Loop, rec = fun st pe => { state := st, pending := pe, fn, tmps := a.tmps, params := #[p], assign, body, defers := w.heap.size } := ⟨_, rfl⟩
  obtain ⟨w1, hw1⟩ : ∃ w1, (w.alloc (.deferred (some []))).alloc (.loop (rec .ready none)) = w1 := ⟨_, rfl⟩
  have hx1 : Ext False w w1 := by rw [← hw1]; exact Ext.alloc2 _ _ _
  have hs1 : w1.heap.size = w.heap.size + 2 := by rw [← hw1]; simp only [World.size_alloc]
  have hL1 : w1.heap[w.heap.size + 1]? = some (.loop (rec .ready none)) := by rw [← hw1]; have := World.alloc_heap_new (w.alloc (.deferred (some []))) (.loop (rec .ready none)); rwa [World.size_alloc] at this
  have hD1 : w1.heap[w.heap.size]? = some (.deferred (some [])) := by rw [← hw1]; exact ((Ext.alloc (β := False) (w.alloc (.deferred (some []))) (.loop (rec .ready none))).block _ (by simp only [World.size_alloc]; omega) id).trans (World.alloc_heap_new w _)
  refine ⟨w.heap.size + 1, [mkD w.heap.size], w1, { target := .fn (.func gf) lb, args := #[.func (.yield (w.heap.size + 1)) #[] #[]] }, w1, gf,
    #[.func (.yield (w.heap.size + 1)) #[] #[]] ++ lb, w1, ?_, ?_, fun _ _ => trivial, ?_, fun e => (by cases e), ?_⟩
  · rw [← hw1, hrec]; exact run_enterLoop_outer _ _ _ _ _
  · simp only [resolve, hev]
    simp [go_sem, Deferred.ofValue]
  · simp [invoke, go_sem, eg]
  · have key := it (w.heap.size + 1)
      (fun i a => I i a ∧ a.heap[w.heap.size + 1]? = some (.loop (rec .ready none)) ∧ a.heap[w.heap.size]? = some (.deferred (some [])))
      w1 hx1 (fun i a b ⟨h1, h2, h3⟩ x => by
        have l2 := (Array.getElem?_eq_some_iff.1 h2).1
        have l3 := (Array.getElem?_eq_some_iff.1 h3).1
        exact ⟨hI i a b (by omega) h1 (x.mono fun _ _ h => h.elim), (x.block _ l2 id).trans h2, (x.block _ l3 id).trans h3⟩) ?_ ⟨h0 w1 hx1 hs1, hL1, hD1⟩
    · refine CallsIn.mono (callsIn_fw (N := N - 1) key) ?_
      rintro e b ⟨v, rfl, h1, h2, h3⟩
      have l2 := (Array.getElem?_eq_some_iff.1 h2).1
      refine ⟨none, b.putObj (w.heap.size + 1) (.loop { rec .ready none with state := .exhausted }), ?_, ?_⟩
      · have := run_endLoop (P := P) h2 (by rw [hrec]; simp)
        rw [hrec] at this ⊢
        exact this
      · refine ⟨fr.mark w.heap.size, ⟨ha.sz, ?_⟩, hk _ (by simp [World.putObj]; omega) (hI _ _ _ (by omega) h1 (Bel.putObj rfl)) ((World.putObj_heap_other (by omega)).trans h3)⟩
        rw [← ha.fr]; rfl
    · rintro i x u hx ⟨h1, h2, h3⟩ M
      have l2 := (Array.getElem?_eq_some_iff.1 h2).1
      have l3 := (Array.getElem?_eq_some_iff.1 h3).1
      have hy := run_yield (P := P) (args := #[enc x]) h2 (by rw [hrec]; rfl)
      rw [hrec] at hy
      refine ⟨fn, _, assign, body, hy, roundIn_of_wpIn hfn ?_⟩
      have his : Is { tmps := ((#[p] : Array Tmp).zip #[enc x]).foldl (fun tmps (t, a) => tmps.setIfInBounds t a) a.tmps, defers := [] } n (fr.bare.set p (enc x)) := by
        have hb0 : Is { a with defers := [] } n fr.bare := ⟨ha.sz, by rw [← ha.fr]; rfl⟩
        have := is_put hb0 hp (enc x)
        simpa [Act.put, Fr.put] using this
      refine wpIn_mono (hb (w.heap.size + 1) i x u hx (by omega) h1 M _ his) ?_
      intro e a1 u1 q
      cases e <;> simp only [post, Exit.then] at q ⊢
      · obtain ⟨f1, his1, hx1', hbody⟩ := q
        have h2' : u1.heap[w.heap.size + 1]? = some (.loop (rec .ready none)) := (hx1'.block _ l2 id).trans h2
        have h3' : u1.heap[w.heap.size]? = some (.deferred (some [])) := (hx1'.block _ l3 id).trans h3
        have l2' := (Array.getElem?_eq_some_iff.1 h2').1
        refine ⟨_, run_beginRound h2' (by rw [hrec]), ?_⟩
        have hl2 : (u1.putObj (w.heap.size + 1) (.loop { rec .ready none with state := .busy })).heap[w.heap.size + 1]? = some (.loop { rec .ready none with state := .busy }) := World.putObj_heap_same l2'
        have hk2 : (u1.putObj (w.heap.size + 1) (.loop { rec .ready none with state := .busy })).heap[w.heap.size]? = some (.deferred (some [])) := (World.putObj_heap_other (by omega)).trans h3'
        refine wpIn_mono (hbody _ (Bel.putObj rfl) M a1 his1) ?_
        intro e2 a3 u3 q
        cases e2 <;> simp only [post, roundPost] at q ⊢
        · obtain ⟨f3, _, hbl, hi3⟩ := q
          have hl3 : u3.heap[w.heap.size + 1]? = some (.loop { rec .ready none with state := .busy }) := (hbl.block _ (Array.getElem?_eq_some_iff.1 hl2).1 (fun h => by have := hD _ h; omega)).trans hl2
          have hk3 : u3.heap[w.heap.size]? = some (.deferred (some [])) := (hbl.block _ (Array.getElem?_eq_some_iff.1 hk2).1 (fun h => by have := hD _ h; omega)).trans hk2
          have l4 := (Array.getElem?_eq_some_iff.1 hl3).1
          have hend := run_endRound (P := P) none hl3
          refine ⟨_, _, hend, rfl, ⟨hI _ _ _ (by omega) hi3 (Bel.putObj rfl), ?_, (World.putObj_heap_other (by omega)).trans hk3⟩, ?_⟩
          · rw [World.putObj_heap_same l4, hrec]; rfl
          · have e1 : Bel False (fun b => D b ∨ w.heap.size ≤ b) u u1 := hx1'.mono fun _ _ h => h.elim
            have e2 : Bel False (fun b => D b ∨ w.heap.size ≤ b) u1 (u1.putObj (w.heap.size + 1) (.loop { rec .ready none with state := .busy })) := Bel.putObj (.inr (by omega))
            have e3 : Bel False (fun b => D b ∨ w.heap.size ≤ b) (u1.putObj (w.heap.size + 1) (.loop { rec .ready none with state := .busy })) u3 := hbl.mono fun _ _ h => .inl h
            exact ((e1.same e2).same e3).same (Bel.putObj (.inr (by omega)))
        all_goals exact (by obtain ⟨_, _, q⟩ := q; exact q.elim)
      all_goals exact (by obtain ⟨_, _, q⟩ := q; exact q.elim)
/-- A frame with another list of what is deferred. -/
def Fr.wds (fr : Fr) (L : List Deferred) : Fr := ⟨fr.sl, L⟩
/-- A loop in whose rounds marks are added: Dm x: those that there are at the round's head. -/
theorem W_forD {rd : Option Nat} {P : Program} {n : Nat} {c : Code} {K : Fr → World → Prop} {E : Nat → Fr → World → Prop} {Rt : Fr → World → Prop} {fr : Fr} {w : World} {α : Type}
    (R : List (Nat × Nat)) (S : α → List (Nat × Value)) (Dm : α → List Nat) (I : α → World → Prop) (mu : α → Nat) (x0 : α) (hS : slotsOk fr (S x0)) (hD : fr.ds = (Dm x0).map mkD) (h0 : I x0 w)
    (hr : ∀ x base w, I x w → W rd P n c (fun fr' w' => ∃ y, slotsOk fr' (S y) ∧ Off R (fr.wds fr'.ds) fr' ∧ fr'.ds = (Dm y).map mkD ∧ I y w' ∧ mu y < mu x) E Rt (setL ((mix R fr base).wds ((Dm x).map mkD)) (S x)) w) :
    W rd P n (.loop c) K E Rt fr w := by
  refine W_loop (fun x fr' w' => slotsOk fr' (S x) ∧ Off R (fr.wds fr'.ds) fr' ∧ fr'.ds = (Dm x).map mkD ∧ I x w') mu x0 ⟨hS, ⟨rfl, fun _ _ => rfl⟩, hD, h0⟩ ?_
  rintro x fr' w' ⟨h1, h2, hd, h3⟩
  have := hr x fr' w' h3
  have e : (mix R fr fr').wds ((Dm x).map mkD) = fr' := by
    refine Fr.ext' (fun j => ?_) hd.symm
    simp only [Fr.wds, mix]
    cases hj : inR R j with
    | true => rfl
    | false => rw [cond_false]; exact (h2.2 j hj).symm
  rw [e, setL_same h1] at this
  refine this.mono ?_ (fun _ _ _ h => h) (fun _ _ h => h)
  rintro fr2 w2 ⟨y, h1, h2, hd, h3, h4⟩
  exact ⟨y, ⟨h1, h2, hd, h3⟩, h4⟩
theorem off_wds {R : List (Nat × Nat)} {fr g : Fr} (h : ∀ j, inR R j = false → g j = fr j) : Off R (fr.wds g.ds) g := ⟨rfl, h⟩
/-- Off, the deferred aside. -/
def OffS (R : List (Nat × Nat)) (fr g : Fr) : Prop := ∀ j, inR R j = false → g j = fr j
theorem offS_of {R : List (Nat × Nat)} {fr g : Fr} (h : OffS R fr g) : Off R (fr.wds g.ds) g := ⟨rfl, h⟩
theorem offS_refl (R : List (Nat × Nat)) (fr : Fr) : OffS R fr fr := fun _ _ => rfl
theorem offS_put {R : List (Nat × Nat)} {fr g : Fr} {d : Nat} {v : Value} (hd : inR R d = true) (h : OffS R fr g) : OffS R fr (g.put (some d) v) := fun j hj => by
  show (g.set d v) j = _
  rw [set_ne (by intro e; subst e; rw [hd] at hj; cases hj)]
  exact h j hj
theorem offS_putN {R : List (Nat × Nat)} {fr g : Fr} {v : Value} (h : OffS R fr g) : OffS R fr (g.put none v) := h
theorem offS_mark {R : List (Nat × Nat)} {fr g : Fr} {b : Nat} (h : OffS R fr g) : OffS R fr (g.mark b) := h
theorem offS_wds {R : List (Nat × Nat)} {fr g : Fr} {L : List Deferred} (h : OffS R fr g) : OffS R fr (g.wds L) := h
theorem offS_mix {R R' : List (Nat × Nat)} {fr fr' base : Fr} (hs : subR R' R = true) (h : OffS R fr fr') : OffS R fr (mix R' fr' base) := fun j hj => by
  have : inR R' j = false := by
    cases hx : inR R' j with
    | false => rfl
    | true => rw [inR_sub hs hx] at hj; cases hj
  simp only [mix, this, cond_false]
  exact h j hj
theorem offS_mixR {R : List (Nat × Nat)} {fr base : Fr} : OffS R fr (mix R fr base) := fun j hj => by simp only [mix, hj, cond_false]
theorem offS_setL {R : List (Nat × Nat)} {fr g : Fr} : ∀ {L : List (Nat × Value)}, (L.all fun p => inR R p.1) = true → OffS R fr g → OffS R fr (setL g L)
  | [], _, h => h
  | p :: r, hL, h => by
    rw [List.all_cons, Bool.and_eq_true] at hL
    exact offS_put hL.1 (offS_setL hL.2 h)
end Go.Lx
