/- Several texts in one file. -/
import Derived.Test.YtjnjalalkbamkaaGreatDoorOwn2
import Derived.Test.YtjnjalalkbamkaaGreatDoorOwn
import Derived.Lib.Bytealg
import Derived.Lib.Join
import Derived.Test.YtjnjalalkbamkaaGreatDoorProg
import Derived.Laws.StructEq
import Derived.Sort.Statements
set_option linter.unusedSimpArgs false
set_option linter.unusedVariables false
set_option linter.unnecessarySimpa false
/- A region that draws its order, with slices of its own that are appended to: each block bears a colour; a step writes blocks of its own colour alone. Nothing of a program stands here. -/
namespace Go.Lx
open Go Go.RowKit
abbrev PostC := Value → World → (Nat → Nat) → Prop
def trivC : PostC := fun _ _ _ => True
def peqC (V : Value) : PostC := fun v _ _ => v = V
def colAt (cols : List Nat) (j : Nat) : Nat := (cols[j]?).getD 0
def FreshG (c0 : Nat → Nat) (w : World) (c : Nat → Nat) : Prop := ∀ b, b < w.heap.size → c b = c0 b
abbrev RelG (β : Prop) (c0 : Nat → Nat) (w w' : World) : Prop := Bel β (fun b => c0 b ≠ 0) w w'
theorem RelG.ext0 {β : Prop} {w w' : World} (h : RelG β (fun _ => 0) w w') : Ext β w w' := Bel.mono h fun _ _ hd => hd rfl
structure StepC (β : Prop) (k : Nat) (w : World) (c : Nat → Nat) (w' : World) (c' : Nat → Nat) : Prop where
 bel : Bel β (fun b => k ≠ 0 ∧ c b = k) w w'
 col : ∀ b, b < w.heap.size → c' b = c b
section
variable {β : Prop} {k : Nat} {w0 w w' : World} {c c' c0 : Nat → Nat}
theorem StepC.rfl' (k : Nat) (w : World) (c : Nat → Nat) : StepC β k w c w c := ⟨Bel.refl _ _, fun _ _ => rfl⟩
theorem StepC.weak (h : StepC β k w c w' c') : StepC False k w c w' c' := ⟨h.bel.weak, h.col⟩
theorem StepC.over (h : StepC β k w c w' c') (x : RelG β c0 w0 w) (h0 : FreshG c0 w0 c) : RelG β c0 w0 w' := Bel.out x h.bel fun g hg hd => by rw [← h0 g hg, hd.2]; exact hd.1
theorem StepC.fresh (h : StepC β k w c w' c') (x : RelG β c0 w0 w) (h0 : FreshG c0 w0 c) : FreshG c0 w0 c' := fun b hb => (h.col b (Nat.lt_of_lt_of_le hb x.size)).trans (h0 b hb)
theorem StepC.ext (x : Ext β w w') (hc : ∀ b, b < w.heap.size → c' b = c b) : StepC β k w c w' c' := ⟨x.mono fun _ _ h => h.elim, hc⟩
end
def StableC (k : Nat) (p : PostC) : Prop := ∀ v w c w' c' q, (q = 0 ∨ q ≠ k) → StepC False q w c w' c' → p v w c → p v w' c'
def StabC (cols : List Nat) : List PostC → Nat → Prop
 | [], _ => True
 | p :: r, i => StableC (colAt cols i) p ∧ StabC cols r (i + 1)
theorem trivC_stable (k : Nat) : StableC k trivC := fun _ _ _ _ _ _ _ _ _ => trivial
theorem Qi (k : Nat) (V : Value) : StableC k (peqC V) := fun _ _ _ _ _ _ _ _ h => h
theorem StabC.get {cols : List Nat} : ∀ {l : List PostC} {i : Nat}, StabC cols l i → ∀ (j : Nat), StableC (colAt cols (i + j)) ((l[j]?).getD trivC)
 | [], i, _, j => by simpa using trivC_stable _
 | q :: r, i, h, 0 => by simpa using h.1
 | q :: r, i, h, j + 1 => by
  have := StabC.get h.2 j
  rw [show i + 1 + j = i + (j + 1) from by omega] at this
  simpa using this
def dso (l : List Oper) (i : Nat) : Option Nat := (l[i]?).bind (·.dst)
def dsIs (l : List Oper) (i d : Nat) : Bool := match dso l i with | some e => Nat.beq e d | none => false
theorem dsIs_iff {l : List Oper} {i d : Nat} : dsIs l i d = true ↔ dso l i = some d := by
 unfold dsIs
 cases dso l i with
 | none => simp
 | some e => simp
def lkO (o : Oper) : Option Nat := match o.dst with
 | some _ => none
 | none => match o.op with
  | .store _ (.tmp s) _ => some s
  | _ => none
def lkV (o : Oper) (fr : Fr) : Value := match lkO o with | some s => fr s | none => undef
def lkAt (l : List Oper) (i : Nat) : Option Nat := (l[i]?).bind lkO
def vAt (l : List Oper) (fr : Fr) (j : Nat) : Value := match dso l j with | some d => fr d | none => match lkAt l j with | some s => fr s | none => undef
theorem lkV_dst {o : Oper} {fr : Fr} {d : Nat} (h : o.dst = some d) : lkV o fr = undef := by simp [lkV, lkO, h]
theorem lkO_look {l : List Oper} {o : Oper} {s : Nat} (h : lkO o = some s) : s ∈ looks l o := by
 unfold lkO at h
 cases hd : o.dst with
 | some d => rw [hd] at h; cases h
 | none =>
  rw [hd] at h
  simp only at h
  simp only [looks, Oper.looksAt, List.mem_append, List.mem_filterMap]
  left
  cases ho : o.op with
  | store T x y =>
   rw [ho] at h
   cases x with
   | tmp q =>
    simp only [Option.some.injEq] at h
    subst h
    exact ⟨.tmp q, by simp [Op.operands], rfl⟩
   | _ => cases h
  | _ => rw [ho] at h; cases h
def prsAt (l : List Oper) (j : Nat) : List Nat := match l[j]? with | some o => prs o | none => []
def upsC (l : List Oper) : Nat → Nat → Nat → Bool
 | 0, j, i => (prsAt l j).contains i
 | n + 1, j, i => (prsAt l j).contains i || (prsAt l j).any fun r => upsC l n r i
def drawOkC (n : Nat) (l : List Oper) (m0 : Nat) : Bool :=
 (List.range m0).all (fun i => match l[i]? with
  | none => false
  | some o => (match o.dst with
    | none => true
    | some d => Nat.blt d n && (List.range i).all fun j => !(dsIs l j d)) &&
   (prs o).all (fun j => Nat.blt j i) && !hasSel o.op && (match lkO o with
    | none => true
    | some s => (List.range m0).all fun j => !(dsIs l j s) || (prs o).contains j) &&
   (looks l o).all fun s => (List.range m0).all fun j => !(dsIs l j s) || (prs o).contains j || (prsAt l j).contains i) &&
 (List.range l.length).all (fun i => Nat.blt i m0 || (match l[i]? with
  | none => false
  | some o => ((List.range i).all fun j => (prs o).contains j) || (Nat.blt m0 i && (prs o).contains (i - 1)) || (Nat.beq i m0 && (List.range m0).all fun j => upsC l 4 m0 j))) && (List.range l.length).all (fun i => match l[i]? with | none => true | some o => (prs o).all fun j => Nat.blt j i) && Nat.ble m0 l.length
def OpC (β : Prop) (k : Nat) (P : Program) (ops : Array Oper) (o : Oper) (fr : Fr) (w : World) (c : Nat → Nat) (S : PostC) : Prop :=
 (Region.wanted o (yF ops fr) = true ∧ ((∃ v w' c', ((execOp (ev fr) o).run P w = .ok (.value v) w' ∧ o.dst.isSome = true ∨ (execOp (ev fr) o).run P w = .ok .skip w' ∧ v = lkV o fr) ∧ StepC β k w c w' c' ∧ S v w' c') ∨ (∃ f args w0, (execOp (ev fr) o).run P w = .ok (.enter f args) w0 ∧ o.dst.isSome = true ∧ Ok P f args w0 fun v w' => ∃ c', StepC β k w c w' c' ∧ S v w' c'))) ∨
 (Region.wanted o (yF ops fr) = false ∧ S (lkV o fr) w c)
def bindC : List (Option Nat × Option Nat × PostC) → Fr → World → (Nat → Nat) → (Fr → Prop) → Prop
 | [], fr, _, _, K => K fr
 | (some d, _, p) :: r, fr, w, c, K => ∀ v, p v w c → bindC r (fr.set d v) w c K
 | (none, some s, p) :: r, fr, w, c, K => p (fr s) w c → bindC r fr w c K
 | (none, none, p) :: r, fr, w, c, K => (∃ u, p u w c) → bindC r fr w c K
def useC (l : List Oper) (cols : List Nat) (i j : Nat) : Bool := Nat.beq (colAt cols j) 0 || (List.range l.length).all fun j' => !(Nat.blt j j' && Nat.beq (colAt cols j') (colAt cols j)) || Nat.beq j' i || upsC l 4 j' i
def lastC (cols : List Nat) (m0 j : Nat) : Bool := Nat.beq (colAt cols j) 0 || (List.range m0).all fun j' => !(Nat.blt j j' && Nat.beq (colAt cols j') (colAt cols j))
def chainC (l : List Oper) (cols : List Nat) (m0 : Nat) : Bool := (List.range m0).all fun i => (List.range m0).all fun j => !(Nat.blt i j && Nat.beq (colAt cols i) (colAt cols j)) || Nat.beq (colAt cols j) 0 || (List.range j).any fun q => Nat.ble i q && Nat.beq (colAt cols q) (colAt cols j) && (prsAt l j).contains q
def predC (l : List Oper) (posts : List PostC) (cols : List Nat) (i : Nat) (o : Oper) : List (Option Nat × Option Nat × PostC) := (prs o).map fun j => (dso l j, none, if useC l cols i j then (posts[j]?).getD trivC else trivC)
def finC (l : List Oper) (posts : List PostC) (cols : List Nat) (m0 : Nat) : List (Option Nat × Option Nat × PostC) := (List.range m0).map fun j => (dso l j, lkAt l j, if lastC cols m0 j then (posts[j]?).getD trivC else trivC)
def beforeC (l : List Oper) (cols : List Nat) (m0 i k : Nat) : Bool := (List.range m0).all fun j => !(Nat.beq (colAt cols j) k) || Nat.beq j i || upsC l 4 j i
def KeepC (l : List Oper) (cols : List Nat) (m0 i : Nat) (c0 : Nat → Nat) (w w' : World) : Prop := ∀ k, k ≠ 0 → beforeC l cols m0 i k = true → ∀ b, b < w.heap.size → c0 b = k → w'.heap[b]? = w.heap[b]?
def OblC (β : Prop) (c0 : Nat → Nat) (P : Program) (l : List Oper) (posts : List PostC) (cols : List Nat) (fr : Fr) (w : World) : List Oper → Nat → Prop
 | [], _ => True
 | o :: r, i => (∀ w' c, RelG β c0 w w' → FreshG c0 w c → KeepC l cols posts.length i c0 w w' → bindC (predC l posts cols i o) fr w' c fun fr' => OpC β (colAt cols i) P l.toArray o fr' w' c ((posts[i]?).getD trivC)) ∧ OblC β c0 P l posts cols fr w r (i + 1)
def FwOk : List (Option Nat × Option Nat × PostC) → Fr → Fr → Prop
 | [], _, _ => True
 | (some d, _, _) :: r, fr, g => FwOk r (fr.set d (g d)) g
 | (none, some s, _) :: r, fr, g => fr s = g s ∧ FwOk r fr g
 | (none, none, _) :: r, fr, g => FwOk r fr g
theorem FwOk.no : ∀ (L : List (Option Nat × Option Nat × PostC)) (fr g : Fr), (∀ e ∈ L, e.2.1 = none) → FwOk L fr g
 | [], _, _, _ => trivial
 | (some d, q, p) :: r, fr, g, h => FwOk.no r _ g fun e he => h e (by simp [he])
 | (none, some s, p) :: r, fr, g, h => absurd (h (none, some s, p) (by simp)) (by simp)
 | (none, none, p) :: r, fr, g, h => FwOk.no r _ g fun e he => h e (by simp [he])
theorem FwOk.of : ∀ (L : List (Option Nat × Option Nat × PostC)) (fr g : Fr), (∀ (i : Nat) (e : Option Nat × Option Nat × PostC) (s : Nat), L[i]? = some e → e.1 = none → e.2.1 = some s → (∃ (j : Nat) (e' : Option Nat × Option Nat × PostC), j < i ∧ L[j]? = some e' ∧ e'.1 = some s) ∨ fr s = g s) → FwOk L fr g
 | [], _, _, _ => trivial
 | (some d, q, p) :: r, fr, g, h => FwOk.of r _ g fun i e s h1 h2 h3 => by
  rcases h (i + 1) e s (by simpa using h1) h2 h3 with ⟨j, e', hj, h4, h5⟩ | h4
  ·cases j with
   | zero =>
    simp at h4; subst h4
    simp only [Option.some.injEq] at h5
    subst h5
    exact .inr set_eq
   | succ j => exact .inl ⟨j, e', by omega, by simpa using h4, h5⟩
  ·right
   by_cases hd : s = d
   ·subst hd; exact set_eq
   ·rw [set_ne hd]; exact h4
 | (none, some q, p) :: r, fr, g, h => by
  have hq : ∀ (i : Nat) (e : Option Nat × Option Nat × PostC) (s : Nat), r[i]? = some e → e.1 = none → e.2.1 = some s → (∃ (j : Nat) (e' : Option Nat × Option Nat × PostC), j < i ∧ r[j]? = some e' ∧ e'.1 = some s) ∨ fr s = g s := fun i e s h1 h2 h3 => by
   rcases h (i + 1) e s (by simpa using h1) h2 h3 with ⟨j, e', hj, h4, h5⟩ | h4
   ·cases j with
    | zero => simp at h4; subst h4; cases h5
    | succ j => exact .inl ⟨j, e', by omega, by simpa using h4, h5⟩
   ·exact .inr h4
  refine ⟨?_, FwOk.of r fr g hq⟩
  rcases h 0 _ q rfl rfl rfl with ⟨j, e', hj, _⟩ | h4
  ·omega
  ·exact h4
 | (none, none, p) :: r, fr, g, h => FwOk.of r fr g fun i e s h1 h2 h3 => by
  rcases h (i + 1) e s (by simpa using h1) h2 h3 with ⟨j, e', hj, h4, h5⟩ | h4
  ·cases j with
   | zero => simp at h4; subst h4; cases h5
   | succ j => exact .inl ⟨j, e', by omega, by simpa using h4, h5⟩
  ·exact .inr h4
theorem bindC_use : ∀ (L : List (Option Nat × Option Nat × PostC)) (fr g : Fr) (w : World) (c : Nat → Nat) (K : Fr → Prop), bindC L fr w c K → FwOk L fr g → (∀ p ∈ L, ∃ u, p.2.2 u w c ∧ (∀ d, p.1 = some d → u = g d) ∧ (∀ s, p.1 = none → p.2.1 = some s → u = g s)) → ∃ fr', K fr' ∧ fr'.ds = fr.ds ∧ (∀ s, (∃ p ∈ L, p.1 = some s) → fr' s = g s) ∧ (∀ s, (∀ p ∈ L, p.1 ≠ some s) → fr' s = fr s)
 | [], fr, g, w, c, K, h, _, _ => ⟨fr, h, rfl, fun s hs => by simp at hs, fun _ _ => rfl⟩
 | (none, some q, p) :: r, fr, g, w, c, K, h, hk, hp => by
  obtain ⟨u, hu, _, hu2⟩ := hp (none, some q, p) (by simp)
  have hu3 := hu2 q rfl rfl
  subst hu3
  obtain ⟨fr', h1, hds, h2, h3⟩ := bindC_use r fr g w c K (h (by rw [hk.1]; exact hu)) hk.2 (fun q hq => hp q (by simp [hq]))
  refine ⟨fr', h1, hds, ?_, ?_⟩
  ·rintro s ⟨q, hq, e⟩
   rcases List.mem_cons.1 hq with rfl | hq
   ·cases e
   ·exact h2 s ⟨q, hq, e⟩
  ·intro s hs
   exact h3 s fun q hq => hs q (by simp [hq])
 | (none, none, p) :: r, fr, g, w, c, K, h, hk, hp => by
  obtain ⟨u, hu, _⟩ := hp (none, none, p) (by simp)
  obtain ⟨fr', h1, hds, h2, h3⟩ := bindC_use r fr g w c K (h ⟨u, hu⟩) hk (fun q hq => hp q (by simp [hq]))
  refine ⟨fr', h1, hds, ?_, ?_⟩
  ·rintro s ⟨q, hq, e⟩
   rcases List.mem_cons.1 hq with rfl | hq
   ·cases e
   ·exact h2 s ⟨q, hq, e⟩
  ·intro s hs
   exact h3 s fun q hq => hs q (by simp [hq])
 | (some d, o, p) :: r, fr, g, w, c, K, h, hk, hp => by
  obtain ⟨u, hu, hu1, _⟩ := hp (some d, o, p) (by simp)
  have hu3 := hu1 d rfl
  subst hu3
  obtain ⟨fr', h1, hds, h2, h3⟩ := bindC_use r (fr.set d (g d)) g w c K (h (g d) hu) hk (fun q hq => hp q (by simp [hq]))
  refine ⟨fr', h1, hds, ?_, ?_⟩
  ·rintro s ⟨q, hq, e⟩
   by_cases hr : ∃ q' ∈ r, q'.1 = some s
   ·exact h2 _ hr
   ·rcases List.mem_cons.1 hq with rfl | hq
    ·simp only [Option.some.injEq] at e
     subst e
     rw [h3 _ (fun q' hq' e' => hr ⟨q', hq', e'⟩)]
     exact set_eq
    ·exact absurd ⟨q, hq, e⟩ hr
  ·intro s hs
   rw [h3 s (fun q hq => hs q (by simp [hq])), set_ne (fun e => hs (some d, o, p) (by simp) (by rw [e]))]
section
variable {rd : Option Nat} {β : Prop} {P : Program} {n : Nat} {K : Fr → World → Prop} {E : Nat → Fr → World → Prop} {R : Fr → World → Prop} {fr : Fr} {w : World} {l : List Oper} {m0 : Nat}
theorem OblC.get {c0 : Nat → Nat} {posts : List PostC} {cols : List Nat} : ∀ (q : List Oper) (i : Nat), OblC β c0 P l posts cols fr w q i → ∀ (j : Nat) (o : Oper), q[j]? = some o →
  ∀ w' c, RelG β c0 w w' → FreshG c0 w c → KeepC l cols posts.length (i + j) c0 w w' → bindC (predC l posts cols (i + j) o) fr w' c fun fr' => OpC β (colAt cols (i + j)) P l.toArray o fr' w' c ((posts[i + j]?).getD trivC)
 | [], _, _, j, o, h => by simp at h
 | a :: r, i, h, 0, o, e => by simp at e; subst e; exact h.1
 | a :: r, i, h, j + 1, o, e => by
  have := OblC.get r (i + 1) h.2 j o (by simpa using e)
  rwa [show i + 1 + j = i + (j + 1) from by omega] at this
theorem Ze {id : Nat} (c0 : Nat → Nat) (posts : List PostC) (cols : List Nat) (m0 : Nat) (hm : P.follows .mixedOrders = true) (hst : drawOkC n l m0 = true) (hch : chainC l cols m0 = true) (hpl : posts.length = m0) (stab : StabC cols posts 0)
  (ob : OblC β c0 P l posts cols fr w (l.take m0) 0)
  (fin : ∀ w' c, RelG β c0 w w' → FreshG c0 w c → bindC (finC l posts cols m0) fr w' c fun fr' => Rg rd P n l.toArray (l.drop m0) K fr' w') : W rd P n (.region id l.toArray true) K E R fr w := by
 intro N a ha
 simp only [drawOkC, Bool.and_eq_true, List.all_eq_true, List.mem_range, Nat.ble_eq] at hst
 obtain ⟨⟨⟨hs1, hs2⟩, hs3⟩, hml⟩ := hst
 have hpre : ∀ i, i < m0 → ∃ o, l[i]? = some o ∧ (∀ d, o.dst = some d → d < n ∧ ∀ j, j < i → dso l j ≠ some d) ∧ hasSel o.op = false ∧ (∀ s, lkO o = some s → ∀ j, j < m0 → dso l j = some s → j ∈ prs o) ∧ (∀ s ∈ looks l o, ∀ j, j < m0 → dso l j = some s → j ∈ prs o ∨ i ∈ prsAt l j) := by
  intro i hi
  have h := hs1 i hi
  cases ho : l[i]? with
  | none => simp [ho] at h
  | some o =>
   simp only [ho] at h
   simp only [Bool.and_eq_true, List.all_eq_true, Bool.or_eq_true, Bool.not_eq_true', List.mem_range] at h
   obtain ⟨⟨⟨⟨h1, _⟩, h4⟩, h6⟩, h5⟩ := h
   refine ⟨o, rfl, ?_, h4, ?_, ?_⟩
   ·intro d hd
    rw [hd] at h1
    simp only [Bool.and_eq_true, List.all_eq_true, Nat.blt_eq, Bool.not_eq_true', List.mem_range] at h1
    refine ⟨h1.1, fun j hj e => ?_⟩
    have := h1.2 j hj
    rw [dsIs_iff.2 e] at this; cases this
   ·intro s hs j hj e
    rw [hs] at h6
    simp only [List.all_eq_true, Bool.or_eq_true, Bool.not_eq_true', List.mem_range] at h6
    rcases h6 j hj with h | h
    ·rw [dsIs_iff.2 e] at h; cases h
    ·simpa using h
   ·intro s hs j hj e
    rcases h5 s hs j hj with (h | h) | h
    ·rw [dsIs_iff.2 e] at h; cases h
    ·exact .inl (by simpa using h)
    ·exact .inr (by simpa using h)
 have hlt3 : ∀ i o, l[i]? = some o → ∀ j ∈ prs o, j < i := by
  intro i o ho j hj
  have hi := (List.getElem?_eq_some_iff.1 ho).1
  have h := hs3 i hi
  simp only [ho, List.all_eq_true, Nat.blt_eq] at h
  exact h j hj
 have htail : ∀ i o, m0 ≤ i → l[i]? = some o → ((∀ j, j < i → j ∈ prs o) ∨ (m0 < i ∧ i - 1 ∈ prs o) ∨ (i = m0 ∧ ∀ j, j < m0 → upsC l 4 m0 j = true)) ∧ (∀ j ∈ prs o, j < i) := by
  intro i o hi ho
  refine ⟨?_, hlt3 i o ho⟩
  have hil := (List.getElem?_eq_some_iff.1 ho).1
  have h := hs2 i hil
  rw [Bool.or_eq_true] at h
  rcases h with h | h
  ·have : i < m0 := by simpa using h
   omega
  ·simp only [ho, List.all_eq_true, List.mem_range, Bool.or_eq_true, Bool.and_eq_true, Nat.blt_eq] at h
   rcases h with (h | h) | h
   ·exact .inl fun j hj => by simpa using h j hj
   ·exact .inr (.inl ⟨h.1, by simpa using h.2⟩)
   ·exact .inr (.inr ⟨by simpa using h.1, h.2⟩)
 have hdd : ∀ i j d, i < m0 → j < m0 → dso l i = some d → dso l j = some d → i = j := by
  intro i j d hi hj e1 e2
  obtain ⟨o, ho, h4, _⟩ := hpre i hi
  obtain ⟨o', ho', h4', _⟩ := hpre j hj
  have g1 : o.dst = some d := by simpa [dso, ho] using e1
  have g2 : o'.dst = some d := by simpa [dso, ho'] using e2
  rcases Nat.lt_trichotomy i j with h | h | h
  ·exact absurd e1 ((h4' d g2).2 i h)
  ·exact h
  ·exact absurd e2 ((h4 d g1).2 j h)
 have hchain0 : ∀ i j, i < m0 → j < m0 → i < j → colAt cols i = colAt cols j → colAt cols j ≠ 0 → ∃ q, i ≤ q ∧ q < j ∧ colAt cols q = colAt cols j ∧ q ∈ prsAt l j := by
  intro i j hi hj hij he h0
  simp only [chainC, List.all_eq_true, List.any_eq_true, List.mem_range, Bool.or_eq_true, Bool.and_eq_true, Bool.not_eq_true', Nat.beq_eq, Nat.ble_eq, List.contains_iff_mem] at hch
  have := hch i hi j hj
  have e1 : Nat.blt i j = true := by simpa [Nat.blt_eq] using hij
  have e2 : Nat.beq (colAt cols i) (colAt cols j) = true := by rw [he]; exact Nat.beq_refl _
  rcases this with (h | h) | h
  ·rw [e1, e2] at h; cases h
  ·exact absurd h h0
  ·obtain ⟨q, h1, ⟨h2, h3⟩, h4⟩ := h
   exact ⟨q, h2, h1, h3, h4⟩
 have hups : ∀ (listed : Array Bool), (∀ j, j < m0 → listed.getD j false = true → ∀ i ∈ prsAt l j, listed.getD i false = true) → ∀ (n j : Nat), j < m0 → listed.getD j false = true → ∀ i, upsC l n j i = true → listed.getD i false = true := by
  intro listed hcl n
  have hin : ∀ j r, j < m0 → r ∈ prsAt l j → r < m0 := by
   intro j r hj hr
   unfold prsAt at hr
   cases ho : l[j]? with
   | none => simp [ho] at hr
   | some o =>
    simp only [ho] at hr
    have := hlt3 j o ho r hr
    omega
  induction n with
  | zero => intro j hj hl i h; exact hcl j hj hl i (by simpa [upsC] using h)
  | succ n ih =>
   intro j hj hl i h
   simp only [upsC, Bool.or_eq_true, List.any_eq_true, List.contains_iff_mem] at h
   rcases h with h | ⟨r, hr, h⟩
   ·exact hcl j hj hl i h
   ·exact ih r (hin j r hj hr) (hcl j hj hl r hr) i h
 let pj : Nat → PostC := fun j => (posts[j]?).getD trivC
 have hstab : ∀ j, StableC (colAt cols j) (pj j) := by
  intro j
  have := stab.get j
  rwa [Nat.zero_add] at this
 have hlkf : ∀ g : Fr, (∀ s, (∀ j, j < m0 → dso l j ≠ some s) → g s = fr s) → FwOk (finC l posts cols m0) fr g := by
  intro g hg
  refine FwOk.of _ _ _ fun i e s h1 h2 h3 => ?_
  simp only [finC, List.getElem?_map] at h1
  have him : i < m0 := by
   rcases Nat.lt_or_ge i m0 with h | h
   ·exact h
   ·rw [List.getElem?_eq_none (by simpa using h)] at h1; cases h1
  rw [List.getElem?_range him] at h1
  simp only [Option.map_some, Option.some.injEq] at h1
  subst h1
  simp only at h2 h3
  by_cases hw : ∃ j, j < m0 ∧ dso l j = some s
  ·obtain ⟨j, hj, e⟩ := hw
   obtain ⟨o, ho, _, _, hl, _⟩ := hpre i him
   have hlo : lkO o = some s := by simpa [lkAt, ho] using h3
   have hji := hlt3 i o ho j (hl s hlo j hj e)
   exact .inl ⟨j, _, hji, by rw [finC, List.getElem?_map, List.getElem?_range hj]; rfl, e⟩
  ·exact .inr (hg s fun j hj e => hw ⟨j, hj, e⟩).symm
 have key : ∀ (fuel : Nat) (listed : Array Bool) (a : Act) (w' : World) (c : Nat → Nat), (unl m0 listed).length + (l.length - m0) ≤ fuel → listed.size = l.length → (∀ j, m0 ≤ j → j < l.length → listed.getD j true = false) →
   (∀ j, j < m0 → listed.getD j false = true → ∀ i ∈ prsAt l j, listed.getD i false = true) → a.defers = fr.ds → a.tmps.size = n → RelG β c0 w w' → FreshG c0 w c → (∀ j, j < m0 → listed.getD j false = true → (colAt cols j = 0 ∨ ∀ j', j < j' → j' < m0 → colAt cols j' = colAt cols j → listed.getD j' false = false) → pj j (vAt l (frOf a) j) w' c) → (∀ s, (∀ j, j < m0 → listed.getD j false = true → dso l j ≠ some s) → frOf a s = fr s) → (∀ k, k ≠ 0 → (∀ j, j < m0 → colAt cols j = k → listed.getD j false = false) → ∀ b, b < w.heap.size → c0 b = k → w'.heap[b]? = w.heap[b]?) →
   wpAnyIn (Fw rd) N P .any l.toArray (post n K E R) fuel listed a w' := by
  intro fuel
  induction fuel with
  | zero =>
   intro listed a w' c hf hsz htl hcl hd hn hx hc0 hp hoff hk0
   have hu : unl m0 listed = [] := List.eq_nil_of_length_eq_zero (by omega)
   have hall : ∀ j, j < m0 → listed.getD j false = true := by
    intro j hj
    have : j ∉ unl m0 listed := by rw [hu]; simp
    simp only [unl, List.mem_filter, List.mem_range, hj, true_and, Bool.not_eq_true', Bool.not_eq_false] at this
    have h5 : j < listed.size := by omega
    simpa [Array.getD, h5] using this
   obtain ⟨fr', h1, hds, h2, h3⟩ := bindC_use _ fr (frOf a) w' c _ (fin w' c hx hc0) (hlkf (frOf a) (fun s hs => hoff s fun j hj _ => hs j hj)) (by
    intro p hpm
    simp only [finC, List.mem_map, List.mem_range] at hpm
    obtain ⟨j, hj, rfl⟩ := hpm
    refine ⟨vAt l (frOf a) j, ?_, fun d hd => by simp only at hd; simp [vAt, hd], fun s hd hs => by simp only at hd hs; simp [vAt, hd, hs]⟩
    simp only
    split
    ·rename_i hlast
     refine hp j hj (hall j hj) ?_
     simp only [lastC, Bool.or_eq_true, Nat.beq_eq, List.all_eq_true, List.mem_range, Bool.not_eq_true', Bool.and_eq_true] at hlast
     rcases hlast with h | h
     ·exact .inl h
     ·right
      intro j' h1 h2 h3
      exfalso
      have := h j' h2
      have e1 : Nat.blt j j' = true := by simpa [Nat.blt_eq] using h1
      have e2 : Nat.beq (colAt cols j') (colAt cols j) = true := by rw [h3]; exact Nat.beq_refl _
      rw [e1, e2] at this
      cases this
    ·trivial)
   have efr : fr' = frOf a := by
    refine Fr.ext' (fun s => ?_) (hds.trans hd.symm)
    by_cases hs : ∃ p ∈ finC l posts cols m0, p.1 = some s
    ·exact h2 s hs
    ·rw [h3 s (fun p hp e => hs ⟨p, hp, e⟩)]
     refine (hoff s fun j hj _ e => hs ⟨(dso l j, lkAt l j, if lastC cols m0 j then pj j else trivC), ?_, e⟩).symm
     simp only [finC, List.mem_map, List.mem_range]
     exact ⟨j, hj, rfl⟩
   subst efr
   refine tail_any (m0 := m0) rfl (fun i o hi ho => ⟨(htail i o hi ho).1.imp_right (Or.imp_right And.left), (htail i o hi ho).2⟩) 0 m0 listed a w' (Nat.le_refl _) (by omega) hsz (fun j hj _ => hall j hj) (fun j hj hjl => htl j hj hjl) ?_
   exact h1 N _ (fun a' fr' w'' i1 i2 => ⟨fr', i1, i2⟩) a ⟨hn, rfl⟩
  | succ fuel ih =>
   intro listed a w' c hf hsz htl hcl hd hn hx hc0 hp hoff hk0
   by_cases hu : unl m0 listed = []
   ·have hall : ∀ j, j < m0 → listed.getD j false = true := by
     intro j hj
     have : j ∉ unl m0 listed := by rw [hu]; simp
     simp only [unl, List.mem_filter, List.mem_range, hj, true_and, Bool.not_eq_true', Bool.not_eq_false] at this
     have h5 : j < listed.size := by omega
     simpa [Array.getD, h5] using this
    obtain ⟨fr', h1, hds, h2, h3⟩ := bindC_use _ fr (frOf a) w' c _ (fin w' c hx hc0) (hlkf (frOf a) (fun s hs => hoff s fun j hj _ => hs j hj)) (by
     intro p hpm
     simp only [finC, List.mem_map, List.mem_range] at hpm
     obtain ⟨j, hj, rfl⟩ := hpm
     refine ⟨vAt l (frOf a) j, ?_, fun d hd => by simp only at hd; simp [vAt, hd], fun s hd hs => by simp only at hd hs; simp [vAt, hd, hs]⟩
     simp only
     split
     ·rename_i hlast
      refine hp j hj (hall j hj) ?_
      simp only [lastC, Bool.or_eq_true, Nat.beq_eq, List.all_eq_true, List.mem_range, Bool.not_eq_true', Bool.and_eq_true] at hlast
      rcases hlast with h | h
      ·exact .inl h
      ·right
       intro j' h1 h2 h3
       exfalso
       have := h j' h2
       have e1 : Nat.blt j j' = true := by simpa [Nat.blt_eq] using h1
       have e2 : Nat.beq (colAt cols j') (colAt cols j) = true := by rw [h3]; exact Nat.beq_refl _
       rw [e1, e2] at this
       cases this
     ·trivial)
    have efr : fr' = frOf a := by
     refine Fr.ext' (fun s => ?_) (hds.trans hd.symm)
     by_cases hs : ∃ p ∈ finC l posts cols m0, p.1 = some s
     ·exact h2 s hs
     ·rw [h3 s (fun p hp e => hs ⟨p, hp, e⟩)]
      refine (hoff s fun j hj _ e => hs ⟨(dso l j, lkAt l j, if lastC cols m0 j then pj j else trivC), ?_, e⟩).symm
      simp only [finC, List.mem_map, List.mem_range]
      exact ⟨j, hj, rfl⟩
    subst efr
    refine tail_any (m0 := m0) rfl (fun i o hi ho => ⟨(htail i o hi ho).1.imp_right (Or.imp_right And.left), (htail i o hi ho).2⟩) (fuel + 1) m0 listed a w' (Nat.le_refl _) (by rw [hu] at hf; simp at hf; omega) hsz (fun j hj _ => hall j hj) (fun j hj hjl => htl j hj hjl) ?_
    exact h1 N _ (fun a' fr' w'' i1 i2 => ⟨fr', i1, i2⟩) a ⟨hn, rfl⟩
   ·refine ⟨?_, ?_⟩
    ·-- the least that is not done is ready
     intro hr
     exfalso
     obtain ⟨i, hi, hleast⟩ : ∃ i, i ∈ unl m0 listed ∧ ∀ j, j ∈ unl m0 listed → i ≤ j := by
      obtain ⟨i, h1, h2⟩ := least_of (fun i => i ∈ unl m0 listed) (by
       cases hul : unl m0 listed with
       | nil => exact absurd hul hu
       | cons x xs => exact ⟨x, by simp⟩)
      exact ⟨i, h1, h2⟩
     have hi' := hi
     simp only [unl, List.mem_filter, List.mem_range, Bool.not_eq_true'] at hi'
     have hil : i < l.length := by omega
     have : i ∈ Region.ready .any l.toArray listed := by
      rw [mem_ready]
      refine ⟨hi'.2, l[i], by simp [hil], ?_⟩
      intro e he hb
      have hp1 : e.on ∈ prs l[i] := by
       simp only [prs, List.mem_map, List.mem_filter]
       exact ⟨e, ⟨by simpa using he, hb⟩, rfl⟩
      have hlt := hlt3 i l[i] (List.getElem?_eq_getElem hil) _ hp1
      have hnot : e.on ∉ unl m0 listed := fun h => by have := hleast _ h; omega
      simp only [unl, List.mem_filter, List.mem_range, not_and, Bool.not_eq_true', Bool.not_eq_false] at hnot
      have := hnot (by omega)
      have h5 : e.on < listed.size := by omega
      simpa [Array.getD, h5] using this
     rw [hr] at this; simp at this
    ·intro i hi
     rw [mem_ready] at hi
     obtain ⟨hiu, o, ho, hpr⟩ := hi
     have ho' : l[i]? = some o := by simpa using ho
     have hil : i < l.length := (List.getElem?_eq_some_iff.1 ho').1
     have hprs : ∀ j ∈ prs o, listed.getD j false = true := by
      intro j hj
      simp only [prs, List.mem_map, List.mem_filter] at hj
      obtain ⟨e, ⟨he, hb⟩, rfl⟩ := hj
      exact hpr e (by simpa using he) hb
     have him : i < m0 := by
      rcases Nat.lt_or_ge i m0 with h | h
      ·exact h
      ·exfalso
       cases hul : unl m0 listed with
       | nil => exact hu hul
       | cons x xs =>
        have hx' : x ∈ unl m0 listed := by rw [hul]; simp
        simp only [unl, List.mem_filter, List.mem_range, Bool.not_eq_true'] at hx'
        rcases (htail i o h ho').1 with hq | ⟨hq1, hq2⟩ | ⟨hq1, hq2⟩
        ·have := hprs x (hq x (by omega))
         have h5 : x < listed.size := by omega
         simp [Array.getD, h5] at this hx'
         rw [this] at hx'; simp at hx'
        ·have := hprs _ hq2
         have h6 := htl (i - 1) (by omega) (by omega)
         have h5 : i - 1 < listed.size := by omega
         simp [Array.getD, h5] at this h6
         rw [this] at h6; simp at h6
        ·have hu2 := hq2 x hx'.1
         have hpi : prsAt l m0 = prs o := by simp [prsAt, ← hq1, ho']
         have hxl : listed.getD x false = true := by
          rw [upsC, hpi, Bool.or_eq_true] at hu2
          rcases hu2 with hu2 | hu2
          ·exact hprs x (by simpa using hu2)
          ·obtain ⟨r, hr1, hr2⟩ := List.any_eq_true.1 hu2
           have hrl : r < m0 := by have := (htail i o h ho').2 r hr1; omega
           exact hups listed hcl 3 r hrl (hprs r hr1) x hr2
         have h5 : x < listed.size := by omega
         simp [Array.getD, h5] at hxl hx'
         rw [hxl] at hx'; simp at hx'
     obtain ⟨o2, ho2, hdst, hsel, hlink, hlooks⟩ := hpre i him
     rw [ho'] at ho2
     obtain rfl : o = o2 := by simpa using ho2
     have hdsl : dso l i = o.dst := by simp [dso, ho']
     have hb := OblC.get (l.take m0) 0 ob i o (by rw [List.getElem?_take]; simp [him, ho']) w' c hx hc0 (by
      rw [Nat.zero_add, hpl]
      intro k hk hbe b hb1 hb2
      refine hk0 k hk (fun j hj he => ?_) b hb1 hb2
      simp only [beforeC, List.all_eq_true, List.mem_range, Bool.or_eq_true, Bool.not_eq_true', Nat.beq_eq, List.contains_iff_mem] at hbe
      have h5 : j < listed.size := by omega
      have h6 : i < listed.size := by omega
      have hif : listed.getD i false = false := by simp [Array.getD, h6] at hiu ⊢; exact hiu
      rcases hbe j hj with (h | h) | h
      ·have e2 : Nat.beq (colAt cols j) k = true := by rw [he]; exact Nat.beq_refl _
       rw [e2] at h; cases h
      ·subst h; exact hif
      ·cases hx9 : listed.getD j false with
       | false => rfl
       | true => rw [hups listed hcl 4 j hj hx9 i h] at hif; cases hif)
     rw [Nat.zero_add] at hb
     have hprlt : ∀ j ∈ prs o, j < i := hlt3 i o ho'
     obtain ⟨fr', h1, hds, h2, h3⟩ := bindC_use _ fr (frOf a) w' c _ hb (FwOk.no _ _ _ fun e he => by
       simp only [predC, List.mem_map] at he
       obtain ⟨j, _, rfl⟩ := he
       rfl) (by
      intro p hpm
      simp only [predC, List.mem_map] at hpm
      obtain ⟨j, hj, rfl⟩ := hpm
      refine ⟨vAt l (frOf a) j, ?_, fun d hd => by simp only at hd; simp [vAt, hd], fun s hd hs => by simp at hs⟩
      simp only
      split
      ·rename_i hus
       refine hp j (by have := hprlt j hj; omega) (hprs j hj) ?_
       simp only [useC, Bool.or_eq_true, Nat.beq_eq, List.all_eq_true, List.mem_range, Bool.not_eq_true', Bool.and_eq_true, List.contains_iff_mem] at hus
       rcases hus with h | h
       ·exact .inl h
       ·right
        intro j' g1 g2 g3
        have e1 : Nat.blt j j' = true := by simpa [Nat.blt_eq] using g1
        have e2 : Nat.beq (colAt cols j') (colAt cols j) = true := by rw [g3]; exact Nat.beq_refl _
        have g4 := h j' (by omega)
        rcases g4 with (g4 | g4) | g4
        ·rw [e1, e2] at g4; cases g4
        ·subst g4
         have h5 : j' < listed.size := by omega
         simp [Array.getD, h5] at hiu ⊢
         exact hiu
        ·have hne : listed.getD i false = false := by
          have h5 : i < listed.size := by omega
          simp [Array.getD, h5] at hiu ⊢
          exact hiu
         cases hx9 : listed.getD j' false with
         | false => rfl
         | true =>
          exfalso
          have := hups listed hcl 4 j' (by omega) hx9 i g4
          rw [this] at hne; cases hne
      ·trivial)
     -- the frame that the obligation speaks of agrees on all that o looks at
     have hag : ∀ s ∈ looks l o, fr' s = frOf a s := by
      intro s hs
      by_cases hin : ∃ p ∈ predC l posts cols i o, p.1 = some s
      ·exact h2 s hin
      ·rw [h3 s (fun p hp e => hin ⟨p, hp, e⟩)]
       refine (hoff s fun j hj hl9 e => ?_).symm
       rcases hlooks s hs j hj e with h8 | h8
       ·refine hin ⟨(dso l j, none, if useC l cols i j then pj j else trivC), ?_, e⟩
        simp only [predC, List.mem_map]
        exact ⟨j, h8, rfl⟩
       ·have h9 := hcl j hj hl9 i h8
        have h5 : i < listed.size := by omega
        simp [Array.getD, h5] at h9 hiu
        rw [h9] at hiu; cases hiu
     have heq : execOp a.eval o = execOp (ev fr') o := by
      refine execOp_congr o (by
       intro cs b e
       rw [e] at hsel; cases hsel) ?_
      intro x hx
      cases x with
      | tmp s =>
       have : s ∈ looks l o := by
        simp only [looks, Oper.looksAt, List.mem_append, List.mem_filterMap]
        exact .inl ⟨.tmp s, by simpa using hx, rfl⟩
       exact (hag s this).symm
      | _ => rfl
     have hlkv : lkV o fr' = lkV o (frOf a) := by
      unfold lkV
      cases hx8 : lkO o with
      | none => rfl
      | some s => exact hag s (lkO_look hx8)
     have hwt : Region.wanted o (yielded l.toArray a.tmps) = Region.wanted o (yF l.toArray fr') := by
      unfold Region.wanted
      cases hg : o.guard with
      | none => rfl
      | some p =>
       obtain ⟨gj, gb⟩ := p
       simp only [yF_eq]
       unfold yF
       cases hgd : (l.toArray[gj]?).bind (·.dst) with
       | none => rfl
       | some s =>
        have : s ∈ looks l o := by
         simp only [looks, Oper.looksAt, List.mem_append, hg]
         right; rw [hgd]; simp
        simp only [hag s this]
     have hchain : ∀ i' j, i' < m0 → j < m0 → i' < j → listed.getD j false = true → listed.getD i' true = false → colAt cols i' ≠ 0 → colAt cols i' ≠ colAt cols j := by
      intro i' j hi' hj hij hl2 hl3 hz he
      have hdown : ∀ (m j : Nat), j ≤ m → j < m0 → i' < j → listed.getD j false = true → colAt cols i' = colAt cols j → listed.getD i' false = true := by
       intro m
       induction m with
       | zero => intro j h1 _ h3; omega
       | succ m ihm =>
        intro j h1 h2 h3 h4 h5
        obtain ⟨q, q1, q2, q3, q4⟩ := hchain0 i' j hi' h2 h3 h5 (by rw [← h5]; exact hz)
        have hq := hcl j h2 h4 q q4
        rcases Nat.lt_or_ge i' q with h | h
        ·exact ihm q (by omega) (by omega) h hq (h5.trans q3.symm)
        ·have : q = i' := by omega
         rw [← this]; exact hq
      have := hdown j j (Nat.le_refl _) hj hij hl2 he
      have h5 : i' < listed.size := by omega
      simp [Array.getD, h5] at this hl3
      rw [this] at hl3; cases hl3
     have hnext : ∀ v w'' c'', StepC β (colAt cols i) w' c w'' c'' → pj i (match o.dst with | some _ => v | none => lkV o (frOf a)) w'' c'' → wpAnyIn (Fw rd) N P .any l.toArray (post n K E R) fuel (listed.setIfInBounds i true) (a.put o.dst v) w'' := by
      intro v w'' c'' hx2 hpv
      have his : Is (a.put o.dst v) n ((frOf a).put o.dst v) := is_put ⟨hn, rfl⟩ (by
       cases hx5 : o.dst with
       | none => rfl
       | some d => simpa [dstOk, Nat.blt_eq] using (hdst d hx5).1) v
      refine ih _ _ _ c'' ?_ (by simpa using hsz) ?_ ?_ ((show (a.put o.dst v).defers = a.defers by cases o.dst <;> rfl).trans hd) his.sz (hx2.over hx hc0) (hx2.fresh hx hc0) ?_ ?_ ?_
      ·have := unl_set (m0 := m0) him (by omega) hiu; omega
      ·intro j hj hjl
       rw [getD_set_ne true (by omega)]; exact htl j hj hjl
      ·intro j hj hl2 q hq
       by_cases e : j = i
       ·subst e
        have h6 : q ∈ prs o := by simpa [prsAt, ho'] using hq
        have h7 := hprs q h6
        have h8 : q ≠ j := by have := hprlt q h6; omega
        rw [getD_set_ne false (fun h => h8 h.symm)]; exact h7
       ·rw [getD_set_ne false (fun h => e h.symm)] at hl2
        have h7 := hcl j hj hl2 q hq
        by_cases e2 : q = i
        ·subst e2
         have h5 : q < listed.size := by omega
         simp [Array.getD, h5]
        ·rw [getD_set_ne false (fun h => e2 h.symm)]; exact h7
      ·intro j hj hl2 hlast
       rw [his.fr]
       by_cases e : j = i
       ·subst e
        have : vAt l ((frOf a).put o.dst v) j = (match o.dst with | some _ => v | none => lkV o (frOf a)) := by
         unfold vAt
         rw [hdsl]
         cases hx5 : o.dst with
         | none => simp only [Fr.put, lkV, lkAt, ho', Option.bind_some]
         | some d => simp only [Fr.put]; exact set_eq
        rw [this]
        exact hpv
       ·have hl2' : listed.getD j false = true := by rwa [getD_set_ne false (fun h => e h.symm)] at hl2
        have hsame : vAt l ((frOf a).put o.dst v) j = vAt l (frOf a) j := by
         unfold vAt
         cases hx6 : dso l j with
         | none =>
          simp only
          cases hx7 : lkAt l j with
          | none => rfl
          | some q =>
           cases hx5 : o.dst with
           | none => rfl
           | some d =>
            simp only [Fr.put]
            refine set_ne fun e2 => ?_
            subst e2
            obtain ⟨oj, hoj, _, _, hlj, _⟩ := hpre j hj
            have h8 := hlj q (by simpa [lkAt, hoj] using hx7) i him (by rw [hdsl, hx5])
            have h9 := hcl j hj hl2' i (by simpa [prsAt, hoj] using h8)
            have h5 : i < listed.size := by omega
            simp [Array.getD, h5] at h9 hiu
            rw [h9] at hiu; cases hiu
         | some q =>
          cases hx5 : o.dst with
          | none => rfl
          | some d =>
           simp only [Fr.put]
           refine set_ne fun e2 => e ?_
           subst e2
           exact hdd j i q hj him hx6 (by rw [hdsl, hx5])
        rw [hsame]
        rw [getD_set_ne false (fun h => e h.symm)] at hl2
        refine hstab j _ _ _ _ _ (colAt cols i) ?_ hx2.weak (hp j hj hl2 ?_)
        ·by_cases h0 : colAt cols i = 0
         ·exact .inl h0
         ·right
          intro he
          rcases hlast with h | h
          ·rw [h] at he; exact h0 he
          ·have hij : j < i ∨ i < j := by omega
           rcases hij with hij | hij
           ·have h9 := h i hij him he
            have h5 : i < listed.size := by omega
            simp [Array.getD, h5] at h9
           ·exact hchain i j him hj hij hl2 hiu h0 he
        ·rcases hlast with h | h
         ·exact .inl h
         ·right
          intro j' g1 g2 g3
          have h9 := h j' g1 g2 g3
          by_cases e3 : j' = i
          ·subst e3
           have h5 : j' < listed.size := by omega
           simp [Array.getD, h5] at h9
          ·rwa [getD_set_ne false (fun h => e3 h.symm)] at h9
      ·intro s hs
       have h5 : i < listed.size := by omega
       have hset : (listed.setIfInBounds i true).getD i false = true := by simp [Array.getD, h5]
       have hs' : ∀ j, j < m0 → listed.getD j false = true → dso l j ≠ some s := by
        intro j hj hl9
        refine hs j hj ?_
        by_cases e : j = i
        ·subst e; exact hset
        ·rwa [getD_set_ne false (fun h => e h.symm)]
       rw [his.fr]
       cases hx5 : o.dst with
       | none => exact hoff s hs'
       | some d =>
        simp only [Fr.put]
        rw [set_ne (fun h => hs i him hset (by rw [hdsl, hx5, h]))]
        exact hoff s hs'
      ·intro k hk hno b hb1 hb2
       have hki : colAt cols i ≠ k := by
        intro he
        have := hno i him he
        have h6 : i < listed.size := by omega
        simp [Array.getD, h6] at this
       have h1 : w''.heap[b]? = w'.heap[b]? := hx2.bel.block b (Nat.lt_of_lt_of_le hb1 hx.size) fun hd2 => hki (by rw [← hd2.2, hc0 b hb1, hb2])
       rw [h1]
       refine hk0 k hk (fun j hj he => ?_) b hb1 hb2
       have := hno j hj he
       by_cases e : j = i
       ·subst e; exact absurd he hki
       ·rwa [getD_set_ne false (fun h => e h.symm)] at this
     simp only [wpOpIn, ho, hwt]
     rcases h1 with ⟨hw, h1⟩ | ⟨hw, h1⟩
     ·rw [if_pos hw]
      unfold Oper.wpIn
      refine ⟨fun _ _ => trivial, ?_⟩
      rw [show (Fw rd).round = rd from rfl]
      rw [← heq] at h1
      rcases h1 with ⟨v, w'', c'', hr, hx2, hS⟩ | ⟨f, args, w0, hr, hsome, hok⟩
      ·rcases hr with ⟨hr, hsome⟩ | ⟨hr, hu⟩
       ·rw [semAt_run hr (fun _ e => by cases e)]; exact hnext v w'' c'' hx2 (by cases hx7 : o.dst with | none => rw [hx7] at hsome; cases hsome | some d => exact hS)
       ·rw [semAt_run hr (fun _ e => by cases e)]; exact hnext undef w'' c'' hx2 (by cases hx7 : o.dst with | none => rw [hu, hlkv] at hS; exact hS | some d => rw [hu, lkV_dst hx7] at hS; exact hS)
      ·rw [semAt_run hr (fun _ e => by cases e)]
       refine ⟨fun e => (by cases e), callsIn_fw (Calls.mono hok ?_)⟩
       rintro e w'' ⟨v, rfl, c'', hx2, hS⟩
       exact hnext v w'' c'' hx2 (by cases hx7 : o.dst with | none => rw [hx7] at hsome; cases hsome | some d => exact hS)
     ·rw [hw]
      exact ⟨fun _ _ => trivial, hnext undef w' c (StepC.rfl' _ _ _) (by cases hx7 : o.dst with | none => rw [hlkv] at h1; exact h1 | some d => rw [lkV_dst hx7] at h1; exact h1)⟩
 have hx0 : RelG β c0 w { w with drawn := w.drawn + 1 } := (Ext.drew w).mono fun _ _ h => h.elim
 refine wpIn_region_any hm (key _ _ a _ c0 ?_ (by simp) ?_ ?_ ha.df ha.sz hx0 (fun _ _ => rfl) ?_ ?_ (fun _ _ _ _ _ _ => rfl))
 ·have : (unl m0 (Array.replicate l.toArray.size false)).length ≤ m0 := by
   unfold unl; exact Nat.le_trans (List.length_filter_le _ _) (by simp)
  simp at this ⊢; omega
 ·intro j _ hj; simp [Array.getD, hj]
 ·intro j hj h
  have hjl : j < l.length := by omega
  simp [Array.getD, hjl] at h
 ·intro j hj h
  have hjl : j < l.length := by omega
  simp [Array.getD, hjl] at h
 ·intro s _; rw [ha.fr]
theorem Qk {c0 : Nat → Nat} {posts : List PostC} {cols : List Nat} {o : Oper} {r : List Oper} {i : Nat} (h : ∀ w' c, RelG β c0 w w' → FreshG c0 w c → KeepC l cols posts.length i c0 w w' → bindC (predC l posts cols i o) fr w' c fun fr' => OpC β (colAt cols i) P l.toArray o fr' w' c ((posts[i]?).getD trivC)) (k : OblC β c0 P l posts cols fr w r (i + 1)) : OblC β c0 P l posts cols fr w (o :: r) i := ⟨h, k⟩
theorem Q8 {c0 : Nat → Nat} {posts : List PostC} {cols : List Nat} {i : Nat} : OblC β c0 P l posts cols fr w [] i := trivial
variable {c : Nat → Nat} {k : Nat}
theorem Qb {d : Nat} {q : Option Nat} {V : Value} {r : List (Option Nat × Option Nat × PostC)} {F : Fr → Prop} (h : bindC r (fr.set d V) w c F) : bindC ((some d, q, peqC V) :: r) fr w c F := by
 intro v hv
 cases hv
 exact h
theorem Qw {d : Nat} {q : Option Nat} {p : PostC} {r : List (Option Nat × Option Nat × PostC)} {F : Fr → Prop} (h : ∀ v, p v w c → bindC r (fr.set d v) w c F) : bindC ((some d, q, p) :: r) fr w c F := h
theorem bindC_st {p : PostC} {r : List (Option Nat × Option Nat × PostC)} {F : Fr → Prop} (h : ∀ u, p u w c → bindC r fr w c F) : bindC ((none, none, p) :: r) fr w c F := fun ⟨u, hu⟩ => h u hu
theorem bindC_lk {s : Nat} {v : Value} {p : PostC} {r : List (Option Nat × Option Nat × PostC)} {F : Fr → Prop} (hv : fr s = v) (h : p v w c → bindC r fr w c F) : bindC ((none, some s, p) :: r) fr w c F := fun hp => h (hv ▸ hp)
theorem Qj {F : Fr → Prop} (h : F fr) : bindC [] fr w c F := h
theorem OpC.mono {ops : Array Oper} {o : Oper} {S S' : PostC} (h : OpC β k P ops o fr w c S) (hs : ∀ v w' c', S v w' c' → S' v w' c') : OpC β k P ops o fr w c S' := by
 rcases h with ⟨h1, h2⟩ | ⟨h1, h2⟩
 ·left
  refine ⟨h1, ?_⟩
  rcases h2 with ⟨v, w', c', g1, g2, g3⟩ | ⟨f, args, w0, g1, g0, g2⟩
  ·exact .inl ⟨v, w', c', g1, g2, hs _ _ _ g3⟩
  ·exact .inr ⟨f, args, w0, g1, g0, g2.mono fun v w' ⟨c', a, b⟩ => ⟨c', a, hs _ _ _ b⟩⟩
 ·exact .inr ⟨h1, hs _ _ _ h2⟩
def gC (g : Bool) (S : PostC) : PostC := fun v w c => (g = true → S v w c) ∧ (g = false → v = undef)
def newC (c : Nat → Nat) (w : World) (k : Nat) : Nat → Nat := fun b => if b < w.heap.size then c b else k
theorem newC_old {b : Nat} (h : b < w.heap.size) : newC c w k b = c b := if_pos h
theorem newC_new {b : Nat} (h : w.heap.size ≤ b) : newC c w k b = k := if_neg (by omega)
def postOwn {α : Type} (enc : α → List Value) (k : Nat) (e : TypeId) (kc : Nat) (l : List α) : PostC := fun v w c => Own enc k e (fun b => c b = kc) w v l
theorem Q1 {α : Type} {enc : α → List Value} {k kc : Nat} {e : TypeId} {l : List α} : StableC kc (postOwn enc k e kc l) := by
 intro v w c w' c' q hq hx hp
 have h : Own enc k e (fun b => c b = kc) w' v l := Own.keepD hp hx.bel fun g _ h1 h2 => by
  rcases hq with h | h
  ·exact h2.1 h
  ·exact h (h2.2.symm.trans h1)
 exact ⟨h.row, fun g hg => (hx.col g (Own.lt hp g hg)).trans (h.loc g hg)⟩
def postBox (w0 : World) (T : TypeId) (cs : List Value) : PostC := fun v w c => ∃ b, v = .pointer (some ⟨b, 0, none⟩) ∧ w0.heap.size ≤ b ∧ Box w b T cs ∧ c b = 0
theorem postBox_stable {w0 : World} {T : TypeId} {cs : List Value} {kc : Nat} : StableC kc (postBox w0 T cs) := by
 rintro v w c w' c' q hq hx ⟨b, h1, h2, h3, h4⟩
 exact ⟨b, h1, h2, h3.keep hx.bel fun hd => hd.1 (by rw [← hd.2]; exact h4), (hx.col b h3.lt).trans h4⟩
section
variable {ops : Array Oper} {d : Nat} {op : Op} {ty : TypeId} {pos : String} {after : Array Edge} {v : Value} {f : FuncId} {args : Array Value} {b cc oc : Bool} {S : PostC}
theorem Qs {o : Oper} (hg : o.guard = none) (h : xop P fr w o = .ok (.value v) w) (hd : o.dst.isSome = true := by rfl) : OpC β k P ops o fr w c (peqC v) :=
 .inl ⟨by simp [Region.wanted, hg], .inl ⟨v, w, c, .inl ⟨h, hd⟩, StepC.rfl' _ _ _, rfl⟩⟩
theorem OpC_vp {o : Oper} {p : PostC} (hg : o.guard = none) (h : xop P fr w o = .ok (.value v) w) (hp : p v w c) (hd : o.dst.isSome = true := by rfl) : OpC β k P ops o fr w c p :=
 .inl ⟨by simp [Region.wanted, hg], .inl ⟨v, w, c, .inl ⟨h, hd⟩, StepC.rfl' _ _ _, hp⟩⟩
theorem OpC_call {o : Oper} (hg : o.guard = none) (h : xop P fr w o = .ok (.enter f args) w) (hk : Ok P f args w fun v' w' => v' = v ∧ Ext β w w') (hd : o.dst.isSome = true := by rfl) : OpC β k P ops o fr w c (peqC v) :=
 .inl ⟨by simp [Region.wanted, hg], .inr ⟨f, args, w, h, hd, hk.mono fun _ _ ⟨a, b⟩ => ⟨c, StepC.ext b fun _ _ => rfl, a⟩⟩⟩
theorem OpC_box {w0 : World} {T : TypeId} {z : Value} {o : Oper} (hw : w0.heap.size ≤ w.heap.size) (hg : o.guard = none) (h : xop P fr w o = .ok (.value (.pointer (some ⟨w.heap.size, 0, none⟩))) (w.alloc (.cells z.cells T))) (hd : o.dst.isSome = true := by rfl) : OpC β k P ops o fr w c (postBox w0 T z.cells.toList) :=
 .inl ⟨by simp [Region.wanted, hg], .inl ⟨_, _, newC c w 0, .inl ⟨h, hd⟩, StepC.ext (Ext.alloc _ _) fun _ hb => newC_old hb, w.heap.size, rfl, hw, Box.alloc w z.cells T, newC_new (Nat.le_refl _)⟩⟩
theorem OpC_guard (i g : Nat) (hi : (ops[i]?).bind (·.dst) = some g) (hc : fr g = .bool cc) (h : (cc == b) = true → OpC β k P ops ⟨some d, op, ty, pos, after, none⟩ fr w c S) : OpC β k P ops ⟨some d, op, ty, pos, after, some (i, b)⟩ fr w c (gC (cc == b) S) := by
 cases hcb : (cc == b) with
 | true =>
  rcases h hcb with ⟨h1, h2⟩ | ⟨h1, h2⟩
  ·left
   refine ⟨by simp only [Region.wanted, yF_of hi hc]; simpa using hcb, ?_⟩
   rcases h2 with ⟨v, w', c', g1, g2, g3⟩ | ⟨f, args, w0, g1, g0, g2⟩
   ·exact .inl ⟨v, w', c', g1, g2, fun _ => g3, fun h => by cases h⟩
   ·exact .inr ⟨f, args, w0, g1, g0, g2.mono fun v w' ⟨c', x, y⟩ => ⟨c', x, fun _ => y, fun h => by cases h⟩⟩
  ·simp [Region.wanted] at h1
 | false => exact .inr ⟨by simp only [Region.wanted, yF_of hi hc]; cases cc <;> cases b <;> simp_all, fun h => by simp at h, fun _ => rfl⟩
theorem QU (i g : Nat) (hi : (ops[i]?).bind (·.dst) = some g) (hc : fr g = .bool b) (h : OpC β k P ops ⟨some d, op, ty, pos, after, none⟩ fr w c S) : OpC β k P ops ⟨some d, op, ty, pos, after, some (i, b)⟩ fr w c S :=
 (OpC_guard i g hi hc fun _ => h).mono fun _ _ _ hp => hp.1 (by cases b <;> rfl)
end
section
variable {α : Type} {enc : α → List Value} {s : Nat} {T e : TypeId} {by_ : Nat} {z : Value} {ops : Array Oper} {d : Nat} {ty : TypeId} {pos : String} {after : Array Edge} {kc : Nat}
theorem OpC_app {x y : Operand} {v : Value} {l news : List α} {a : Option Addr} {m cp : Nat} {F : Nat → Prop} (h0 : kc ≠ 0) (he : EncOk enc s) (ht : ElT P T e s by_ z) (hx : ev fr x = v) (hy : ev fr y = .slice a m cp) (ho : Own enc s e (fun b => c b = kc) w v l)
  (hn : Sl enc s F w a cp news) (hm : news.length = m) (hb : (l.length + news.length) * by_ ≤ 140737488355328) :
  OpC False kc P ops ⟨some d, .call { callee := .builtin .append, args := #[x, y], argTypes := #[T, T] }, ty, pos, after, none⟩ fr w c (postOwn enc s e kc (l ++ news)) := by
 have hO : Own enc s e (fun g => newC c w kc g = kc) w v l := ho.mono fun g hg h => (newC_old hg).trans h
 obtain ⟨i, hi, hz, hs, hby⟩ := ht.inf
 have key : ∃ v' w', (Builtin.append_ #[T, T] ty #[v, .slice a m cp]).run P w = .ok v' w' ∧ Bel False (fun g => newC c w kc g = kc) w w' ∧ Own enc s e (fun g => newC c w kc g = kc) w' v' (l ++ news) := by
  cases a with
  | none =>
   have hc := hn.nil rfl
   have hl := hn.le
   subst hm
   have h0 : news = [] := List.eq_nil_of_length_eq_zero (by omega)
   subst h0
   subst hc
   exact ⟨v, w, run_append_owned_none (P := P) w 0 T ty e i s ht.sl hi v l.length (l.flatMap enc) ho.row, Bel.refl _ _, by rw [List.append_nil]; exact hO⟩
  | some ad =>
   refine app_run news he ht hO ?_ hm (by rw [← hm]; exact hb) (fun g hg => newC_new hg)
   intro j u hj
   have hne : news ≠ [] := by rintro rfl; simp at hj
   obtain ⟨b, off, h1, h2, h3⟩ := hn.cells he hne
   simp only [Option.some.injEq] at h1
   subst h1
   have := h3 j u hj
   unfold Addr.add
   by_cases h : j = 0
   ·subst h; simpa using this
   ·rw [if_neg h]; exact this
 obtain ⟨v', w', hr, h2, h3⟩ := key
 refine .inl ⟨rfl, .inl ⟨v', w', newC c w kc, .inl ⟨?_, rfl⟩, ⟨h2.mono fun b hb h => ⟨h0, (newC_old hb).symm.trans h⟩, fun b hb => newC_old hb⟩, h3⟩⟩
 simp [execOp, resolve, invoke, builtin, hx, hy, hr]
theorem OpC_bs {len : Nat} {parts : Array (Nat × Operand)} {vs : List Value} (news : List α)
  (he : EncOk enc s) (ht : ElT P T e s by_ z) (hi : parts.toList.map (·.1) = idxs 0 (parts.toList.map (·.2))) (hv : (parts.toList.map fun p => ev fr p.2) = vs) (hs : sizesOk s vs) (hf : flat vs = news.flatMap enc) (hl : news.length = len) (hp : parts.toList.length = len) (hsm : Nat.ble (len * s) 16777216 = true) :
  OpC β kc P ops ⟨some d, .buildSlice T len parts, ty, pos, after, none⟩ fr w c (fun v w c => ∃ a, v = .slice a len len ∧ postOwn enc s e kc news v w c) := by
 have hpn : (parts.map fun (x : Nat × Operand) => (x.1, ev fr x.2)).toList = number 0 vs := by
  rw [← hv, Array.toList_map]; exact number_of _ _ _ hi
 have hlen : vs.length = len := by rw [← hv, List.length_map]; exact hp
 have hr := run_bs (w := w) (len := len) ht hpn hs.mem hlen (by simpa using hsm)
 have hle : len ≤ 16777216 := by
  have h1 : len * s ≤ 16777216 := by simpa using hsm
  exact Nat.le_trans (Nat.le_mul_of_pos_right _ he.pos) h1
 refine .inl ⟨rfl, .inl ⟨.slice (some ⟨w.heap.size, 0, none⟩) len len, w.alloc (.cells (flat vs).toArray e), newC c w kc, .inl ⟨?_, rfl⟩, StepC.ext (Ext.alloc _ _) fun _ hb => newC_old hb, _, rfl, ⟨⟨by rw [fm_len he], .inr ⟨w.heap.size, len, (flat vs).toArray, by rw [hl], Nat.zero_le _, heap_alloc_new w _, by rw [hl]; exact Nat.le_refl _, by unfold maxLen; omega, by rw [hf, List.size_toArray, fm_len he, hl], by rw [hf, List.toList_toArray, List.take_of_length_le (by rw [fm_len he]; exact Nat.le_refl _)]⟩⟩, ?_⟩⟩⟩
 ·simp only [execOp]
  simp only [Sem.run_bind, Sem.run_pure]
  have : (Array.map (fun x : Nat × Operand => match x with | (i, x) => (i, ev fr x)) parts) = parts.map fun (x : Nat × Operand) => (x.1, ev fr x.2) := rfl
  rw [this, hr]
  rfl
 ·intro g hg
  simp [Value.ownBlock] at hg
  subst hg
  exact newC_new (Nat.le_refl _)
theorem postBs_stable {len : Nat} {news : List α} : StableC kc (fun v w c => ∃ a, v = .slice a len len ∧ postOwn enc s e kc news v w c) :=
 fun v w c w' c' q hq hx ⟨a, h1, h2⟩ => ⟨a, h1, Q1 v w c w' c' q hq hx h2⟩
theorem Box.blk {w w' : World} {b : Nat} {T : TypeId} {cs : List Value} (h : Box w b T cs) (hb : w'.heap[b]? = w.heap[b]?) : Box w' b T cs := hb.trans h
theorem Own.blk {α : Type} {enc : α → List Value} {k : Nat} {e : TypeId} {D D' : Nat → Prop} {w w' : World} {v : Value} {l : List α} (h : Own enc k e D w v l) (hb : ∀ g, g < w.heap.size → v.ownBlock = some g → w'.heap[g]? = w.heap[g]?) (hD : ∀ g, g < w.heap.size → v.ownBlock = some g → D' g) : Own enc k e D' w' v l := by
 refine ⟨⟨h.row.1, ?_⟩, fun g hg => hD g (h.lt g hg) hg⟩
 rcases h.row.2 with h' | ⟨g, cap, cur, h1, h2, h3, h4⟩
 ·exact .inl h'
 ·exact .inr ⟨g, cap, cur, h1, h2, by rw [hb g (Array.getElem?_eq_some_iff.1 h3).1 (by rw [h1]; rfl)]; exact h3, h4⟩
def postAt (b kc : Nat) (T : TypeId) (cs : List Value) : PostC := fun _ w c => Box w b T cs ∧ c b = kc
theorem postAt_stable {b : Nat} {T : TypeId} {cs : List Value} : StableC kc (postAt b kc T cs) := by
 intro v w c w' c' q hq hx ⟨h1, h2⟩
 refine ⟨h1.keep hx.bel fun hd => ?_, (hx.col b h1.lt).trans h2⟩
 rcases hq with h | h
 ·exact hd.1 h
 ·exact h (hd.2.symm.trans h2)
theorem OpC_store {U T : TypeId} {x y : Operand} {b off m : Nat} {cs : List Value} {v : Value} (h0 : kc ≠ 0)
  (hs : ∀ w, (sizeOf U).run P w = .ok m w) (hx : ev fr x = .pointer (some ⟨b, off, none⟩)) (hy : ev fr y = v) (hb : Box w b T cs) (hc : c b = kc) (hv : v.cells.toList.length = m) (h1 : oneL v.cells.toList = true) (hle : Nat.ble (off + v.cells.toList.length) cs.length = true) :
  OpC β kc P ops ⟨none, .store U x y, ty, pos, after, none⟩ fr w c (postAt b kc T (splice cs off v.cells.toList)) := by
 have hst := run_storeCells_at (P := P) b off T v.cells.toList 0 cs.toArray w hb (by simpa using hle) (oneL.mem h1)
 simp only [Nat.add_zero] at hst
 have hsz : v.cells.size = m := by rw [← Array.length_toList]; exact hv
 refine .inl ⟨rfl, .inl ⟨lkV _ fr, w.setRow b (cs.toArray.toList.take off ++ v.cells.toList ++ cs.toArray.toList.drop (off + v.cells.toList.length)).toArray, c, .inr ⟨?_, rfl⟩, ⟨⟨rfl, rfl, rfl, by simp, fun j _ hj => setRow_other w b j _ (fun e => hj ⟨h0, by subst e; exact hc⟩), fun _ => Nat.le_refl _⟩, fun _ _ => rfl⟩, setRow_heap w b cs.toArray _ T _ hb, hc⟩⟩
 simp only [execOp, hx, hy, Instr.storeAt, Instr.sureAddr, storeVar, Sem.run_bind, Sem.run_pure, Result.andThen_ok, hs]
 simp [hsz, hst]
theorem OpC_storeW {U T : TypeId} {x y : Operand} {b m : Nat} {cs : List Value} {v : Value} (h0 : kc ≠ 0)
  (hs : ∀ w, (sizeOf U).run P w = .ok m w) (hx : ev fr x = .pointer (some ⟨b, 0, none⟩)) (hy : ev fr y = v) (hb : Box w b T cs) (hc : c b = kc) (hv : v.cells.toList.length = m) (h1 : oneL v.cells.toList = true) (hle : v.cells.toList.length = cs.length) :
  OpC β kc P ops ⟨none, .store U x y, ty, pos, after, none⟩ fr w c (postAt b kc T v.cells.toList) := by
 have h := OpC_store (β := β) (ops := ops) (ty := ty) (pos := pos) (after := after) h0 hs hx hy hb hc hv h1 (by rw [hle]; simp)
 have e2 : splice cs 0 v.cells.toList = v.cells.toList := by
  unfold splice
  rw [List.take_zero, List.nil_append, Nat.zero_add, List.drop_of_length_le (by rw [hle]; exact Nat.le_refl _), List.append_nil]
 rwa [e2] at h
end
end
end Go.Lx
/- The plain functions of the path layer and of the small library functions that it calls. Nothing of a program stands here. -/
namespace Go.Lx
abbrev Str := List UInt8
def encS (l : Str) : List Value := [str l]
theorem encS_ok : EncOk encS 1 := ⟨by decide, fun _ => rfl, fun x u hu => by simp [encS] at hu; subst hu; rfl⟩
theorem getElem?_of {α : Type} {l : List α} {i : Nat} (h : i < l.length) : l[i]? = some l[i] := List.getElem?_eq_getElem h
theorem getD_of {l : List UInt8} {i : Nat} (h : i < l.length) : l.getD i 0 = l[i] := by simp [List.getD, h]
theorem all_take_succ {l : List UInt8} {p : UInt8 → Bool} {k : Nat} (h : k < l.length) : (l.take (k + 1)).all p = ((l.take k).all p && p (l.getD k 0)) := by
 rw [getD_of h, List.take_succ_eq_append_getElem h, List.all_append]; simp
theorem all_at {l : List UInt8} {p : UInt8 → Bool} {k : Nat} (h : k < l.length) (hp : p (l.getD k 0) = false) : l.all p = false := by
 rw [getD_of h] at hp
 rw [List.all_eq_false]
 exact ⟨l[k], List.getElem_mem h, by simp [hp]⟩
theorem all_end {α : Type} {l : List α} {p : α → Bool} {k : Nat} (h : l.length ≤ k) (ha : (l.take k).all p = true) : l.all p = true := by rwa [List.take_of_length_le h] at ha
theorem allT_succ {α : Type} {l : List α} {p : α → Bool} {k : Nat} (h : k < l.length) (ha : (l.take k).all p = true) (hp : p l[k] = true) : (l.take (k + 1)).all p = true := by
 rw [List.take_succ_eq_append_getElem h, List.all_append, ha]; simp [hp]
theorem allT_at {α : Type} {l : List α} {p : α → Bool} {k : Nat} (h : k < l.length) (hp : p l[k] = false) : l.all p = false := by
 rw [List.all_eq_false]; exact ⟨l[k], List.getElem_mem h, by simp [hp]⟩
theorem anyT_succ {α : Type} {l : List α} {p : α → Bool} {k : Nat} (h : k < l.length) (ha : (l.take k).any p = false) (hp : p l[k] = false) : (l.take (k + 1)).any p = false := by
 rw [List.take_succ_eq_append_getElem h, List.any_append, ha]; simp [hp]
def nameB (c : UInt8) : Bool := !((decide ((c.toNat : Int) < 97) || decide ((122 : Int) < c.toNat)) && (decide ((c.toNat : Int) < 48) || decide ((57 : Int) < c.toNat)) && ((c.toNat : Int) != 95) && ((c.toNat : Int) != 46) && ((c.toNat : Int) != 45))
def namedS (l : Str) : Bool := !(decide ((l.length : Int) < 1) || decide ((12 : Int) < l.length) || l == [46] || l == [46, 46]) && l.all nameB
def ixOf {α : Type} (p : α → Bool) (l : List α) : Int := match l.findIdx? p with | some i => (i : Int) | none => -1
theorem ixOf_at {α : Type} {p : α → Bool} {l : List α} {k : Nat} (h : k < l.length) (ha : (l.take k).any p = false) (hp : p l[k] = true) : ixOf p l = k := by
 have : l.findIdx? p = some k := by
  rw [List.findIdx?_eq_some_iff_getElem]
  refine ⟨h, hp, fun j hj => ?_⟩
  rw [List.any_eq_false] at ha
  have := ha l[j] (by rw [List.mem_take_iff_getElem]; exact ⟨j, by omega, rfl⟩)
  simpa using this
 simp [ixOf, this]
theorem ixOf_none {α : Type} {p : α → Bool} {l : List α} {k : Nat} (h : l.length ≤ k) (ha : (l.take k).any p = false) : ixOf p l = -1 := by
 rw [List.take_of_length_le h] at ha
 have : l.findIdx? p = none := by
  rw [List.findIdx?_eq_none_iff]
  intro x hx
  have := List.any_eq_false.1 ha x hx
  simpa using this
 simp [ixOf, this]
theorem ixOf_ge {α : Type} (p : α → Bool) (l : List α) : decide ((0 : Int) ≤ ixOf p l) = l.any p := by
 unfold ixOf
 cases h : l.findIdx? p with
 | none =>
  rw [List.findIdx?_eq_none_iff] at h
  have : l.any p = false := by rw [List.any_eq_false]; intro x hx; simp [h x hx]
  simp [this]
 | some i =>
  rw [List.findIdx?_eq_some_iff_getElem] at h
  obtain ⟨h1, h2, _⟩ := h
  have : l.any p = true := by rw [List.any_eq_true]; exact ⟨l[i], List.getElem_mem h1, h2⟩
  simp [this]
def hasPre (s p : Str) : Bool := decide ((p.length : Int) ≤ s.length) && (s.take p.length == p)
def splitS : Str → List Str
 | [] => [[]]
 | c :: r => if c == 47 then [] :: splitS r else match splitS r with | [] => [[c]] | h :: t => (c :: h) :: t
theorem splitS_ne (l : Str) : splitS l ≠ [] := by
 cases l with
 | nil => simp [splitS]
 | cons c r =>
  simp only [splitS]
  split
  ·simp
  ·split <;> simp
theorem split_idx : ∀ (l : Str), (Lib.indexByte l 47 = -1 ∧ splitS l = [l] ∧ l.count 47 = 0) ∨ (∃ m : Nat, Lib.indexByte l 47 = m ∧ m < l.length ∧ splitS l = l.take m :: splitS (l.drop (m + 1)) ∧ l.count 47 = (l.drop (m + 1)).count 47 + 1)
 | [] => .inl ⟨rfl, rfl, rfl⟩
 | c :: r => by
  by_cases hc : c = 47
  ·subst hc
   exact .inr ⟨0, by simp [Lib.indexByte], by simp, by simp [splitS], by simp⟩
  ·have hb : (c == 47) = false := by simp [hc]
   rcases split_idx r with ⟨h1, h2, h3⟩ | ⟨m, h1, h2, h3, h4⟩
   ·left
    refine ⟨by simp [Lib.indexByte, hb, h1], by simp [splitS, hb, h2], by rw [List.count_cons, h3]; simp [hb]⟩
   ·right
    have hm : ¬ ((m : Int) = -1) := by omega
    refine ⟨m + 1, ?_, by simp; omega, ?_, ?_⟩
    ·simp [Lib.indexByte, hb, h1, hm]
    ·simp [splitS, hb, h3]
    ·rw [List.count_cons, h4]; simp [hb]
theorem split_last {l : Str} (h : l.count 47 = 0) : splitS l = [l] := by
 rcases split_idx l with ⟨_, h2, _⟩ | ⟨m, _, _, _, h4⟩
 ·exact h2
 ·omega
theorem split_neg {l : Str} (h : Lib.indexByte l 47 < 0) : l.count 47 = 0 := by
 rcases split_idx l with ⟨_, _, h3⟩ | ⟨m, h1, _⟩
 ·exact h3
 ·omega
theorem split_pos {l : Str} (h : ¬ Lib.indexByte l 47 < 0) : ∃ m : Nat, Lib.indexByte l 47 = m ∧ m < l.length ∧ splitS l = l.take m :: splitS (l.drop (m + 1)) ∧ l.count 47 = (l.drop (m + 1)).count 47 + 1 := by
 rcases split_idx l with ⟨h1, _⟩ | h2
 ·omega
 ·exact h2
theorem app_set {α : Type} (x : List α) (u z : α) {n k : Nat} (h : n = k + 1) : (x ++ List.replicate n z).set x.length u = (x ++ [u]) ++ List.replicate k z := by
 subst h
 rw [List.set_append_right _ _ (Nat.le_refl _), Nat.sub_self, List.replicate_succ, List.set_cons_zero]
 simp
def splitP (p : Str) : Option (List Str) :=
 if p == [47] then some [] else if !(hasPre p [47]) then none else if (8 : Int) < (splitS (p.drop 1)).length then none else if (splitS (p.drop 1)).all namedS then some (splitS (p.drop 1)) else none
def splitL (p : Str) : List Str := (splitP p).getD []
def splitOk (p : Str) : Bool := (splitP p).isSome
theorem splitS_mem : ∀ (l : Str) (x : Str), x ∈ splitS l → x.length ≤ l.length
 | [], x, h => by simp [splitS] at h; subst h; simp
 | c :: r, x, h => by
  simp only [splitS] at h
  split at h
  ·rcases List.mem_cons.1 h with rfl | h
   ·simp
   ·have := splitS_mem r x h; simp; omega
  ·have hne := splitS_ne r
   cases hs : splitS r with
   | nil => exact absurd hs hne
   | cons y t =>
    rw [hs] at h
    simp only [List.mem_cons] at h
    rcases h with rfl | h
    ·have := splitS_mem r y (by rw [hs]; simp); simp; omega
    ·have := splitS_mem r x (by rw [hs]; simp [h]); simp; omega
theorem splitS_len1 {p : Str} {k : Nat} (hk : k < (splitS (p.drop 1)).length) (hp : p.length ≤ 1000000) : ((splitS (p.drop 1))[k]).length ≤ 4611686018427387904 := by
 have := splitS_mem (p.drop 1) _ (List.getElem_mem hk)
 simp at this ⊢; omega
theorem hasPre_len {p : Str} (h : hasPre p [47] = true) : 1 ≤ p.length := by
 simp only [hasPre, Bool.and_eq_true, decide_eq_true_eq] at h
 have := h.1; simp at this; omega
theorem splitP_root {p : Str} (h : (p == [47]) = true) : splitP p = some [] := by rw [splitP, if_pos h]
theorem splitP_none {p : Str} (h : ((p == [47]) = false ∧ hasPre p [47] = false) ∨ ((p == [47]) = false ∧ hasPre p [47] = true ∧ ((8 : Int) < (splitS (p.drop 1)).length ∨ (splitS (p.drop 1)).all namedS = false))) : splitP p = none := by
 rcases h with ⟨h1, h2⟩ | ⟨h1, h2, h3⟩
 ·rw [splitP, if_neg (by simp [h1]), if_pos (by simp [h2])]
 ·rw [splitP, if_neg (by simp [h1]), if_neg (by simp [h2])]
  rcases h3 with h | h
  ·rw [if_pos h]
  ·split
   ·rfl
   ·rw [if_neg (by rw [h]; decide)]
theorem splitP_some {p : Str} (h1 : (p == [47]) = false) (h2 : hasPre p [47] = true) (h3 : ¬ (8 : Int) < (splitS (p.drop 1)).length) (h4 : (splitS (p.drop 1)).all namedS = true) : splitP p = some (splitS (p.drop 1)) := by
 rw [splitP, if_neg (by simp [h1]), if_neg (by simp [h2]), if_neg h3, if_pos h4]
theorem splitOk_some {p : Str} {l : List Str} (h : splitP p = some l) : splitOk p = true := by simp [splitOk, h]
theorem splitL_some {p : Str} {l : List Str} (h : splitP p = some l) : splitL p = l := by simp [splitL, h]
theorem splitL_none {p : Str} (h : splitP p = none) : splitL p = [] := by simp [splitL, h]
theorem splitOk_none {p : Str} (h : splitP p = none) : splitOk p = false := by simp [splitOk, h]
theorem split_r {β : Prop} {p : Str} {w w' : World} (hX : Ext β w w') {b : Bool} (h : splitP p = (if b then some [] else none)) :
  ∃ a c, Value.tuple #[.slice none 0 0, .bool b] = .tuple #[.slice a (splitL p).length c, .bool (splitOk p)] ∧ Sl encS 1 (Fsh w w') w' a c (splitL p) ∧ Ext β w w' := by
 cases b with
 | true =>
  simp only [if_true] at h
  exact ⟨none, 0, by rw [splitL_some h, splitOk_some h]; rfl, by rw [splitL_some h]; exact Sl.none, hX⟩
 | false =>
  simp only [Bool.false_eq_true, if_false] at h
  exact ⟨none, 0, by rw [splitL_none h, splitOk_none h]; rfl, by rw [splitL_none h]; exact Sl.none, hX⟩
def commonS : List Str → List Str → Nat
 | a :: x, b :: y => if a == b then commonS x y + 1 else 0
 | _, _ => 0
theorem getE {α : Type} {l : List α} {i : Nat} (z : α) (h : i < l.length) : l[i]? = some (l.getD i z) := by simp [List.getD, h]
section
variable {x y : List Str} {k : Nat}
end
def withinS (p q : Str) : Bool := splitOk p && splitOk q && ((commonS (splitL p) (splitL q) : Int) == (splitL q).length)
def cmpS (a b : Str) : Int := if Op.bytesLess a b then -1 else if !(Op.bytesLess a b || a == b) then 1 else 0
def cmpL : List Str → List Str → Int
 | [], [] => 0
 | [], _ :: _ => -1
 | _ :: _, [] => 1
 | a :: x, b :: y => if cmpS a b != 0 then cmpS a b else cmpL x y
theorem cmpL_nil_right (a : List Str) (h : a ≠ []) : cmpL a [] = 1 := by
 cases a with
 | nil => exact absurd rfl h
 | cons => rfl
section
variable {x y : List Str} {k : Nat}
theorem cmpL_step (h1 : k < x.length) (h2 : k < y.length) (h : (cmpS x[k] y[k] == 0) = true) : cmpL (x.drop k) (y.drop k) = cmpL (x.drop (k + 1)) (y.drop (k + 1)) := by
 rw [List.drop_eq_getElem_cons h1, List.drop_eq_getElem_cons h2, cmpL, bne, h]; simp
theorem cmpL_ne (h1 : k < x.length) (h2 : k < y.length) (h : (cmpS x[k] y[k] == 0) = false) : cmpL (x.drop k) (y.drop k) = cmpS x[k] y[k] := by
 rw [List.drop_eq_getElem_cons h1, List.drop_eq_getElem_cons h2, cmpL, if_pos (by rw [bne, h]; rfl)]
theorem cmpL_long (h1 : k < x.length) (h2 : y.length ≤ k) : cmpL (x.drop k) (y.drop k) = 1 := by
 rw [List.drop_of_length_le h2]
 exact cmpL_nil_right _ (by simp; omega)
theorem cmpL_short (h1 : x.length ≤ k) (h2 : k < y.length) : cmpL (x.drop k) (y.drop k) = -1 := by
 rw [List.drop_of_length_le h1, List.drop_eq_getElem_cons h2]; rfl
theorem cmpL_both (h1 : x.length ≤ k) (h2 : y.length ≤ k) : cmpL (x.drop k) (y.drop k) = 0 := by
 rw [List.drop_of_length_le h1, List.drop_of_length_le h2]; rfl
end
def cmpP (p q : Str) : Int := if splitOk p && splitOk q then cmpL (splitL p) (splitL q) else if splitOk p then -1 else if splitOk q then 1 else cmpS p q
def joinP (l : List Str) : Str := 47 :: Lib.join l [47]
def depthS (p : Str) : Int := if splitOk p then (splitL p).length else -1
def keywordsS : List Str := [[97, 108, 108], [97, 110, 100], [97, 115, 115, 105, 103, 110], [98, 121], [99, 111, 117, 110, 116], [100, 101, 99, 108, 97, 114, 101], [100, 121, 110, 97, 109, 105, 99], [101, 110, 102, 111, 114, 99, 101], [102, 97, 108, 115, 101], [102, 111, 114], [105, 102], [109, 101, 109, 98, 101, 114, 115], [110, 111, 110, 101], [110, 111, 116], [111, 110], [111, 114], [114, 101, 118, 111, 107, 101], [115, 116, 97, 116, 105, 99], [116, 114, 117, 101], [117, 115, 101, 114, 115]]
def letterB (c : UInt8) : Bool := decide ((97 : Int) ≤ c.toNat) && decide ((c.toNat : Int) ≤ 122)
def innerB (c : UInt8) : Bool := letterB c || (decide ((48 : Int) ≤ c.toNat) && decide ((c.toNat : Int) ≤ 57)) || ((c.toNat : Int) == 95)
def nmS (l : Str) : Bool := !((l.length : Int) == 0 || decide ((12 : Int) < l.length) || keywordsS.any fun x => l == x) && l.all innerB && letterB (l.getD 0 0)
def okAt (l : Str) (k : Nat) : Bool := !(!(innerB (l.getD k 0)) || ((k : Int) == 0 && !(letterB (l.getD k 0))))
theorem nm_all {l : Str} {k : Nat} (hk : k ≤ l.length) (h : ∀ i, i < k → okAt l i = true) (hk0 : 0 < k) : (l.take k).all innerB = true ∧ letterB (l.getD 0 0) = true := by
 constructor
 ·rw [List.all_eq_true]
  intro x hx
  rw [List.mem_take_iff_getElem] at hx
  obtain ⟨i, hi, rfl⟩ := hx
  have := h i (by omega)
  unfold okAt at this
  rw [getD_of (by omega)] at this
  simp at this
  exact this.1
 ·have := h 0 hk0
  unfold okAt at this
  simp at this
  simpa using this.2
theorem nm_no {l : Str} {k : Nat} (hk : k < l.length) (h : okAt l k = false) : (l.all innerB && letterB (l.getD 0 0)) = false := by
 unfold okAt at h
 cases hi : innerB (l.getD k 0) with
 | false => rw [all_at hk hi]; rfl
 | true =>
  rw [hi] at h
  by_cases h0 : k = 0
  ·subst h0; simp at h; simp [h]
  ·have : ((k : Int) == 0) = false := by simp; omega
   rw [this] at h; simp at h
theorem okAt_succ {l : Str} {k : Nat} (h : ∀ i, i < k → okAt l i = true) (hk : okAt l k = true) : ∀ i, i < k + 1 → okAt l i = true := by
 intro i hi
 rcases Nat.lt_or_ge i k with h1 | h1
 ·exact h i h1
 ·have : i = k := by omega
  subst this; exact hk
def nmPre (l : Str) : Bool := ((l.length : Int) == 0 || decide ((12 : Int) < l.length))
theorem nmS_of {l : Str} {k : Nat} (hk : l.length ≤ k) (hk' : k ≤ l.length) (h : ∀ i, i < k → okAt l i = true) (h1 : nmPre l = false) : nmS l = !(keywordsS.any fun x => l == x) := by
 have hl : k = l.length := by omega
 subst hl
 have h0 : 0 < l.length := by
  unfold nmPre at h1
  simp at h1
  cases l with
  | nil => simp at h1
  | cons _ _ => simp
 obtain ⟨h2, h3⟩ := nm_all (Nat.le_refl _) h h0
 rw [List.take_length] at h2
 unfold nmPre at h1
 simp only [nmS, h1, Bool.false_or, h2, h3, Bool.and_true]
theorem nmS_pre {l : Str} (h : nmPre l = true) : nmS l = false := by unfold nmPre at h; simp only [nmS, h, Bool.true_or, Bool.not_true, Bool.false_and]
theorem nmS_kw {l : Str} (h : (keywordsS.any fun x => l == x) = true) : nmS l = false := by simp [nmS, h]
theorem nmS_no {l : Str} {k : Nat} (hk : k < l.length) (h : okAt l k = false) : nmS l = false := by
 have := nm_no hk h
 simp only [nmS, Bool.and_assoc, this, Bool.and_false]
end Go.Lx
/- The plain functions of the permission layer. Nothing of a program stands here. -/
namespace Go.Lx
structure Perm where
 act : Str
 path : Str
 deep : Bool
 deriving DecidableEq
def Perm.ok (x : Perm) : Prop := x.act.length ≤ 1000000 ∧ x.path.length ≤ 1000000
def encP (x : Perm) : List Value := [str x.act, str x.path, .bool x.deep]
def checkS (x : Perm) : Int := if !(nmS x.act) then 9 else if !(splitOk x.path) || (x.deep && depthS x.path == 8) then 6 else 0
def coversS (x : Perm) (act obj : Str) : Bool := if checkS x != 0 || !(x.act == act) || !(splitOk obj) then false else x.path == obj || (x.deep && withinS obj x.path)
def impliesS (x y : Perm) : Bool := checkS y == 0 && coversS x y.act y.path && (x.deep || !y.deep)
def cmpM (x y : Perm) : Int :=
 if cmpS x.act y.act != 0 then cmpS x.act y.act else
 let c := if !(splitOk x.path) || !(splitOk y.path) then cmpS x.path y.path else cmpP x.path y.path
 if c != 0 || x.deep == y.deep then c else if y.deep then -1 else 1
def pz : Perm := ⟨[], [], false⟩
theorem eqT_succ {α : Type} {x y : List α} {k : Nat} {z : α} (h1 : k < x.length) (h2 : k < y.length) (h : x.take k = y.take k) (hz : x.getD k z = y.getD k z) : x.take (k + 1) = y.take (k + 1) := by
 rw [List.take_succ_eq_append_getElem h1, List.take_succ_eq_append_getElem h2, h]
 simp [List.getD, h1, h2] at hz
 rw [hz]
section
variable {α : Type} [BEq α] [LawfulBEq α] {x y : List α} {k : Nat} {z : α}
theorem eqT_len (h : ¬ (x.length : Int) = y.length) : (x == y) = false := by
 rw [beq_eq_false_iff_ne]; intro e; subst e; exact h rfl
theorem eqT_ne (hz : ¬ x.getD k z = y.getD k z) : (x == y) = false := by
 rw [beq_eq_false_iff_ne]; intro e; subst e; exact hz rfl
theorem eqT_end (h1 : x.length ≤ k) (h2 : y.length ≤ k) (h : x.take k = y.take k) : (x == y) = true := by
 rw [List.take_of_length_le h1, List.take_of_length_le h2] at h
 rw [beq_iff_eq]; exact h
end
def compStep {α : Type} [BEq α] (acc : List α) (x : α) : List α := if acc.getLast? == some x then acc else acc ++ [x]
def compL {α : Type} [BEq α] (l : List α) : List α := l.foldl compStep []
section
variable {α : Type} [BEq α] {l : List α} {k : Nat} {z : α}
theorem comp_snoc (l : List α) (x : α) : compL (l ++ [x]) = compStep (compL l) x := by simp [compL]
theorem comp_succ (h : k < l.length) : compL (l.take (k + 1)) = compStep (compL (l.take k)) (l.getD k z) := by
 rw [List.take_succ_eq_append_getElem h, comp_snoc]; simp [List.getD, h]
theorem comp_one (h : l.length < 2) : compL l = l := by
 match l, h with
 | [], _ => rfl
 | [x], _ => rfl
 | _ :: _ :: _, h => simp at h; omega
theorem comp_take1 (h : 2 ≤ l.length) : compL (l.take 1) = l.take 1 := comp_one (by rw [List.length_take]; omega)
variable [LawfulBEq α]
theorem comp_last : ∀ (l : List α), (compL l).getLast? = l.getLast? := by
 intro l
 rcases List.eq_nil_or_concat l with rfl | ⟨m, x, rfl⟩
 ·rfl
 ·rw [List.concat_eq_append, comp_snoc]
  unfold compStep
  split
  ·rename_i h; rw [eq_of_beq h]; simp
  ·simp
omit [BEq α] [LawfulBEq α] in
theorem take_last (h : k < l.length) : (l.take (k + 1)).getLast? = some (l.getD k z) := by
 rw [List.take_succ_eq_append_getElem h, List.getLast?_concat]; simp [List.getD, h]
theorem comp_eq (h : k < l.length) (h1 : 1 ≤ k) (he : l.getD k z = l.getD (k - 1) z) : compL (l.take (k + 1)) = compL (l.take k) := by
 obtain ⟨j, rfl⟩ : ∃ j, k = j + 1 := ⟨k - 1, by omega⟩
 rw [comp_succ (z := z) h, compStep, comp_last, take_last (z := z) (by omega), he]
 simp
theorem comp_ne (h : k < l.length) (h1 : 1 ≤ k) (he : ¬ l.getD k z = l.getD (k - 1) z) : compL (l.take (k + 1)) = compL (l.take k) ++ [l.getD k z] := by
 obtain ⟨j, rfl⟩ : ∃ j, k = j + 1 := ⟨k - 1, by omega⟩
 rw [comp_succ (z := z) h, compStep, comp_last, take_last (z := z) (by omega), if_neg]
 intro e
 have := eq_of_beq e
 simp only [Option.some.injEq] at this
 exact he (by rw [← this]; rfl)
end
theorem tail_get {α : Type} {x l : List α} {i : Nat} {z : α} (h1 : x.length ≤ i) (h2 : i < l.length) : (x ++ l.drop x.length)[i]? = some (l.getD i z) := by
 rw [List.getElem?_append_right h1, List.getElem?_drop, show x.length + (i - x.length) = i from by omega, getE z h2]
theorem tail_set {α : Type} {x l : List α} {u : α} (h : x.length < l.length) : (x ++ l.drop x.length).set x.length u = (x ++ [u]) ++ l.drop (x ++ [u]).length := by
 rw [List.set_append_right _ _ (Nat.le_refl _), Nat.sub_self, List.drop_eq_getElem_cons h, List.set_cons_zero]
 simp
theorem ix_some {α : Type} {p : α → Bool} {l : List α} (z : α) (h : (ixOf p l == -1) = false) : ∃ i : Nat, ixOf p l = i ∧ i < l.length ∧ (l.take i).any p = false ∧ p (l.getD i z) = true := by
 unfold ixOf at h ⊢
 cases hf : l.findIdx? p with
 | none => rw [hf] at h; simp at h
 | some i =>
  rw [List.findIdx?_eq_some_iff_getElem] at hf
  obtain ⟨h1, h2, h3⟩ := hf
  refine ⟨i, rfl, h1, ?_, by simp [List.getD, h1, h2]⟩
  rw [List.any_eq_false]
  intro x hx
  rw [List.mem_take_iff_getElem] at hx
  obtain ⟨j, hj, rfl⟩ := hx
  simpa using h3 j (by omega)
end Go.Lx
/- What the walks ask of this program's tables, and its calls without a body. -/
namespace Go.Proofs.YtjnjalalkbamkaaGreatDoor
open Go Go.Lx
theorem Q9 : Tryz.prog.follows .mixedOrders = true := by kernel_rfl
theorem el_string : ElT Tryz.prog 96 9 1 16 (.string ⟨#[]⟩) := ⟨Tryz.underlying96, ⟨Tryz.t9, by kernel_rfl, rfl, rfl, rfl⟩, rfl, by decide, by decide⟩
theorem x_index (l : Str) (c : Int) (w : World) : (callFunc 220 #[str l, .int .u8 c]).run Tryz.prog w = .ok (.value (.int .i64 (Lib.indexByte l c.toNat.toUInt8))) w := by
 rw [run_callFunc_extern Tryz.func220 (by kernel_rfl) (by kernel_rfl) (by kernel_rfl) (e := Extern.BytealgIndexByte.indexByte) (by kernel_rfl)]
 rw [show str l = Value.string ⟨l.toArray⟩ from rfl, Lib.run_indexByteString]; rfl
theorem x_count (l : Str) (c : Int) (w : World) : (callFunc 213 #[str l, .int .u8 c]).run Tryz.prog w = .ok (.value (.int .i64 (l.count c.toNat.toUInt8 : Nat))) w := by
 rw [run_callFunc_extern Tryz.func213 (by kernel_rfl) (by kernel_rfl) (by kernel_rfl) (e := Extern.BytealgCount.count) (by kernel_rfl)]
 rw [show str l = Value.string ⟨l.toArray⟩ from rfl, Lib.run_countString]; rfl
end Go.Proofs.YtjnjalalkbamkaaGreatDoor
/- Equality of structs, told by an encoding. Nothing of a program stands here. -/
namespace Go.Lx
open Go
structure EqT {α : Type} [BEq α] (P : Program) (T : TypeId) (enc : α → List Value) : Prop where
 gd : P.eqGuardType P.depth T = false
 run : ∀ (w : World) x y, (Op.equalIn 10000 T (.agg (enc x).toArray) (.agg (enc y).toArray)).run P w = .ok (x == y) w
section
variable {P : Program} {d : Nat} {xs ys : Array Value} {f : Field} {fs : List Field} {v u : Value} {r r' : Bool}
theorem eqF_nil : ∀ w, (Op.eqFields d xs ys []).run P w = .ok true w := fun _ => rfl
theorem eqF_cons (hn : f.name ≠ "_") (ha : ∀ w, (isAgg f.type).run P w = .ok false w) (hx : xs[f.offset]? = some v) (hy : ys[f.offset]? = some u) (he : ∀ w, (Op.equalIn d f.type v u).run P w = .ok r w) (hr : ∀ w, (Op.eqFields d xs ys fs).run P w = .ok r' w) :
  ∀ w, (Op.eqFields d xs ys (f :: fs)).run P w = .ok (r && r') w := by
 intro w
 simp only [Op.eqFields, hn, ne_eq, not_false_eq_true, if_true, Sem.run_bind, part, ha, Result.andThen_ok, Bool.false_eq_true, if_false, hx, hy, Sem.run_pure, he]
 cases r
 ·simp
 ·simp [hr]
theorem eqI_str {T : TypeId} (l m : List UInt8) (h : P.underlying T = some .string) : ∀ w, (Op.equalIn (d + 1) T (str l) (str m)).run P w = .ok (l == m) w := by
 intro w
 have := run_equalIn_string (P := P) w d T ⟨l.toArray⟩ ⟨m.toArray⟩ h
 rw [toList_mk, toList_mk] at this
 exact this
end
section
variable {α : Type} [BEq α] {enc : α → List Value} {P : Program} {fr : Fr} {w : World} {d : Option Nat} {t : TypeId} {ps : String} {af : Array Edge} {g : Option (Nat × Bool)} {x y : Operand} {T U : TypeId} {a b : α}
theorem o_teql (h : EqT P T enc) (hx : ev fr x = .agg (enc a).toArray) (hy : ev fr y = .agg (enc b).toArray) : xop P fr w ⟨d, .binOp .eql T x y U, t, ps, af, g⟩ = .ok (.value (.bool (a == b))) w := by
 simp only [xop, execOp, hx, hy, Sem.run_bind, run_eqGuard_agg w .eql T x y _ _ h.gd, Result.andThen_ok, run_eql_struct, h.run]
 rfl
theorem o_tneq (h : EqT P T enc) (hx : ev fr x = .agg (enc a).toArray) (hy : ev fr y = .agg (enc b).toArray) : xop P fr w ⟨d, .binOp .neq T x y U, t, ps, af, g⟩ = .ok (.value (.bool (!(a == b)))) w := by
 simp only [xop, execOp, hx, hy, Sem.run_bind, run_eqGuard_agg w .neq T x y _ _ h.gd, Result.andThen_ok, run_neq_struct, h.run]
 rfl
end
end Go.Lx
/- Orders: of texts, of paths, of permissions. Nothing of a program stands here. -/
namespace Go.Lx
open Go
structure IsCmp {α : Type} (f : α → α → Int) : Prop where
 eq : ∀ a b, f a b = 0 ↔ a = b
 anti : ∀ a b, f b a = -f a b
 tr : ∀ a b c, f a b < 0 → f b c < 0 → f a c < 0
theorem bl_irrefl : ∀ (a : Str), Op.bytesLess a a = false
 | [] => rfl
 | c :: r => by simp [Op.bytesLess, bl_irrefl r]
theorem bl_trans : ∀ (a b c : Str), Op.bytesLess a b = true → Op.bytesLess b c = true → Op.bytesLess a c = true
 | a, b, [], _, h => by cases b <;> simp [Op.bytesLess] at h
 | [], [], c :: z, h, _ => by simp [Op.bytesLess] at h
 | [], _ :: _, c :: z, _, _ => by simp [Op.bytesLess]
 | a :: x, [], c :: z, h, _ => by simp [Op.bytesLess] at h
 | a :: x, b :: y, c :: z, h1, h2 => by
  simp only [Op.bytesLess, Bool.or_eq_true, decide_eq_true_eq, Bool.and_eq_true, beq_iff_eq] at h1 h2 ⊢
  rcases h1 with h1 | ⟨rfl, h1⟩
  ·rcases h2 with h2 | ⟨rfl, h2⟩
   ·exact .inl (UInt8.lt_trans h1 h2)
   ·exact .inl h1
  ·rcases h2 with h2 | ⟨rfl, h2⟩
   ·exact .inl h2
   ·exact .inr ⟨rfl, bl_trans x y z h1 h2⟩
theorem bl_total : ∀ (a b : Str), Op.bytesLess a b = true ∨ a = b ∨ Op.bytesLess b a = true
 | [], [] => .inr (.inl rfl)
 | [], _ :: _ => .inl rfl
 | _ :: _, [] => .inr (.inr rfl)
 | a :: x, b :: y => by
  simp only [Op.bytesLess, Bool.or_eq_true, decide_eq_true_eq, Bool.and_eq_true, beq_iff_eq, List.cons.injEq]
  rcases Nat.lt_trichotomy a.toNat b.toNat with h | h | h
  ·exact .inl (.inl (UInt8.lt_iff_toNat_lt.2 h))
  ·have hab : a = b := UInt8.toNat_inj.1 h
   subst hab
   rcases bl_total x y with h | rfl | h
   ·exact .inl (.inr ⟨rfl, h⟩)
   ·exact .inr (.inl ⟨rfl, rfl⟩)
   ·exact .inr (.inr (.inr ⟨rfl, h⟩))
  ·exact .inr (.inr (.inl (UInt8.lt_iff_toNat_lt.2 h)))
theorem bl_asymm {a b : Str} (h : Op.bytesLess a b = true) : Op.bytesLess b a = false := by
 cases hb : Op.bytesLess b a with
 | false => rfl
 | true => have := bl_trans _ _ _ h hb; rw [bl_irrefl] at this; cases this
theorem cmpS_cases (a b : Str) : (cmpS a b = -1 ∧ Op.bytesLess a b = true) ∨ (cmpS a b = 0 ∧ a = b) ∨ (cmpS a b = 1 ∧ Op.bytesLess b a = true) := by
 rcases bl_total a b with h | rfl | h
 ·left; simp [cmpS, h]
 ·right; left; simp [cmpS, bl_irrefl]
 ·right; right
  have h2 := bl_asymm h
  have h3 : (a == b) = false := by
   cases hx : (a == b) with
   | false => rfl
   | true =>
    have : a = b := by simpa using hx
    subst this; rw [bl_irrefl] at h; cases h
  simp [cmpS, h2, h3, h]
theorem cmpS_is : IsCmp cmpS where
 eq a b := by
  constructor
  ·intro h
   rcases cmpS_cases a b with ⟨h1, _⟩ | ⟨_, h2⟩ | ⟨h1, _⟩
   ·omega
   ·exact h2
   ·omega
  ·rintro rfl; simp [cmpS, bl_irrefl]
 anti a b := by
  rcases cmpS_cases a b with ⟨h1, h⟩ | ⟨h1, rfl⟩ | ⟨h1, h⟩
  ·rcases cmpS_cases b a with ⟨_, k⟩ | ⟨_, rfl⟩ | ⟨k1, _⟩
   ·rw [bl_asymm h] at k; cases k
   ·rw [bl_irrefl] at h; cases h
   ·omega
  ·omega
  ·rcases cmpS_cases b a with ⟨k1, k⟩ | ⟨_, rfl⟩ | ⟨k1, k⟩
   ·omega
   ·rw [bl_irrefl] at h; cases h
   ·rw [bl_asymm h] at k; cases k
 tr a b c h1 h2 := by
  rcases cmpS_cases a b with ⟨_, h⟩ | ⟨h, _⟩ | ⟨h, _⟩ <;> try omega
  rcases cmpS_cases b c with ⟨_, k⟩ | ⟨k, _⟩ | ⟨k, _⟩ <;> try omega
  rcases cmpS_cases a c with ⟨m, _⟩ | ⟨_, rfl⟩ | ⟨_, m⟩
  ·omega
  ·rw [bl_asymm h] at k; cases k
  ·have := bl_trans _ _ _ h k
   rw [bl_asymm m] at this; cases this
def lex {α β : Type} (f : α → α → Int) (g : β → β → Int) (x y : α × β) : Int := if f x.1 y.1 != 0 then f x.1 y.1 else g x.2 y.2
theorem lex_is {α β : Type} {f : α → α → Int} {g : β → β → Int} (hf : IsCmp f) (hg : IsCmp g) : IsCmp (lex f g) where
 eq x y := by
  obtain ⟨a, b⟩ := x; obtain ⟨c, d⟩ := y
  simp only [lex, Prod.mk.injEq]
  by_cases h : f a c = 0
  ·simp only [h, bne_self_eq_false, Bool.false_eq_true, if_false]
   rw [hg.eq, ← hf.eq a c]; exact ⟨fun k => ⟨h, k⟩, fun k => k.2⟩
  ·have hb : (f a c != 0) = true := by simp [h]
   rw [if_pos hb]
   exact ⟨fun k => absurd k h, fun k => absurd ((hf.eq a c).2 k.1) h⟩
 anti x y := by
  obtain ⟨a, b⟩ := x; obtain ⟨c, d⟩ := y
  simp only [lex]
  have h1 := hf.anti a c
  by_cases h : f a c = 0
  ·have h2 : f c a = 0 := by omega
   simp only [h, h2, bne_self_eq_false, Bool.false_eq_true, if_false]; exact hg.anti b d
  ·have hb : (f a c != 0) = true := by simp [h]
   have hc : (f c a != 0) = true := by simp; omega
   rw [if_pos hb, if_pos hc]; exact h1
 tr x y z := by
  obtain ⟨a, b⟩ := x; obtain ⟨c, d⟩ := y; obtain ⟨e, k⟩ := z
  simp only [lex]
  intro h1 h2
  by_cases p : f a c = 0
  ·have hac := (hf.eq a c).1 p
   subst hac
   simp only [p, bne_self_eq_false, Bool.false_eq_true, if_false] at h1
   by_cases q : f a e = 0
   ·simp only [q, bne_self_eq_false, Bool.false_eq_true, if_false] at h2 ⊢; exact hg.tr _ _ _ h1 h2
   ·have hb : (f a e != 0) = true := by simp [q]
    rw [if_pos hb] at h2 ⊢; exact h2
  ·have hb : (f a c != 0) = true := by simp [p]
   rw [if_pos hb] at h1
   by_cases q : f c e = 0
   ·have hce := (hf.eq c e).1 q
    subst hce
    rw [if_pos hb]; exact h1
   ·have hb2 : (f c e != 0) = true := by simp [q]
    rw [if_pos hb2] at h2
    have := hf.tr _ _ _ h1 h2
    have hb3 : (f a e != 0) = true := by simp; omega
    rw [if_pos hb3]; exact this
theorem cmpL_is : IsCmp cmpL := by
 have he : ∀ a b, cmpL a b = 0 ↔ a = b := by
  intro a
  induction a with
  | nil => intro b; cases b <;> simp [cmpL]
  | cons x a ih =>
   intro b
   cases b with
   | nil => simp [cmpL]
   | cons y b =>
    simp only [cmpL, List.cons.injEq]
    by_cases h : cmpS x y = 0
    ·simp only [h, bne_self_eq_false, Bool.false_eq_true, if_false]; rw [ih, ← cmpS_is.eq x y]; exact ⟨fun k => ⟨h, k⟩, fun k => k.2⟩
    ·have hb : (cmpS x y != 0) = true := by simp [h]
     rw [if_pos hb]; exact ⟨fun k => absurd k h, fun k => absurd ((cmpS_is.eq x y).2 k.1) h⟩
 have ha : ∀ a b, cmpL b a = -cmpL a b := by
  intro a
  induction a with
  | nil => intro b; cases b <;> simp [cmpL]
  | cons x a ih =>
   intro b
   cases b with
   | nil => simp [cmpL]
   | cons y b =>
    simp only [cmpL]
    have h1 := cmpS_is.anti x y
    by_cases h : cmpS x y = 0
    ·have h2 : cmpS y x = 0 := by omega
     simp only [h, h2, bne_self_eq_false, Bool.false_eq_true, if_false]; exact ih b
    ·have hb : (cmpS x y != 0) = true := by simp [h]
     have hc : (cmpS y x != 0) = true := by simp; omega
     rw [if_pos hb, if_pos hc]; exact h1
 refine ⟨he, ha, ?_⟩
 intro a
 induction a with
 | nil => intro b c h1 h2; cases c with
  | nil => cases b <;> simp [cmpL] at h1 h2
  | cons z c => simp [cmpL]
 | cons x a ih =>
  intro b c h1 h2
  cases b with
  | nil => simp [cmpL] at h1
  | cons y b =>
   cases c with
   | nil => simp [cmpL] at h2
   | cons z c =>
    simp only [cmpL] at h1 h2 ⊢
    by_cases p : cmpS x y = 0
    ·have := (cmpS_is.eq x y).1 p
     subst this
     simp only [p, bne_self_eq_false, Bool.false_eq_true, if_false] at h1
     by_cases q : cmpS x z = 0
     ·simp only [q, bne_self_eq_false, Bool.false_eq_true, if_false] at h2 ⊢; exact ih _ _ h1 h2
     ·have hb : (cmpS x z != 0) = true := by simp [q]
      rw [if_pos hb] at h2 ⊢; exact h2
    ·have hb : (cmpS x y != 0) = true := by simp [p]
     rw [if_pos hb] at h1
     by_cases q : cmpS y z = 0
     ·have := (cmpS_is.eq y z).1 q
      subst this
      rw [if_pos hb]; exact h1
     ·have hb2 : (cmpS y z != 0) = true := by simp [q]
      rw [if_pos hb2] at h2
      have := cmpS_is.tr _ _ _ h1 h2
      have hb3 : (cmpS x z != 0) = true := by simp; omega
      rw [if_pos hb3]; exact this
def cmpB (a b : Bool) : Int := if a == b then 0 else if b then -1 else 1
theorem cmpB_is : IsCmp cmpB := ⟨by decide, by decide, by decide⟩
theorem join_splitS : ∀ (l : Str), Lib.join (splitS l) [47] = l
 | [] => rfl
 | c :: r => by
  have ih := join_splitS r
  have hne := splitS_ne r
  by_cases hc : c = 47
  ·subst hc
   simp only [splitS, beq_self_eq_true, if_true]
   cases hs : splitS r with
   | nil => exact absurd hs hne
   | cons a t =>
    rw [hs] at ih
    show [47].intercalate ([] :: a :: t) = _
    rw [List.intercalate_cons_cons]
    show [] ++ [47] ++ Lib.join (a :: t) [47] = _
    rw [ih]; rfl
  ·have hb : (c == 47) = false := by simp [hc]
   simp only [splitS, hb, Bool.false_eq_true, if_false]
   cases hs : splitS r with
   | nil => exact absurd hs hne
   | cons a t =>
    rw [hs] at ih
    cases t with
    | nil =>
     have h1 : Lib.join [a] [47] = a := Lib.join_one a [47]
     rw [h1] at ih
     show Lib.join [c :: a] [47] = _
     rw [Lib.join_one, ih]
    | cons b t =>
     have e1 : Lib.join (a :: b :: t) [47] = a ++ [47] ++ Lib.join (b :: t) [47] := List.intercalate_cons_cons
     have e2 : Lib.join ((c :: a) :: b :: t) [47] = (c :: a) ++ [47] ++ Lib.join (b :: t) [47] := List.intercalate_cons_cons
     show Lib.join ((c :: a) :: b :: t) [47] = _
     rw [e2]; rw [e1] at ih
     rw [List.cons_append, List.cons_append, ih]
theorem join_split {p : Str} {l : List Str} (h : splitP p = some l) : joinP l = p := by
 unfold splitP at h
 split at h
 ·rename_i h1
  simp at h h1
  subst h h1; rfl
 ·split at h
  ·cases h
  ·rename_i h1 h2
   split at h
   ·cases h
   ·split at h
    ·simp only [Option.some.injEq] at h
     subst h
     have h3 : hasPre p [47] = true := by simpa using h2
     simp only [hasPre, Bool.and_eq_true, beq_iff_eq] at h3
     cases p with
     | nil => simp at h3
     | cons c r =>
      have : c = 47 := by simpa using h3.2
      subst this
      show 47 :: Lib.join (splitS r) [47] = _
      rw [join_splitS]
    ·cases h
theorem split_inj {p q : Str} (hp : splitOk p = true) (hq : splitOk q = true) (h : splitL p = splitL q) : p = q := by
 unfold splitOk at hp hq
 obtain ⟨l, hl⟩ := Option.isSome_iff_exists.1 hp
 obtain ⟨m, hm⟩ := Option.isSome_iff_exists.1 hq
 rw [splitL_some hl, splitL_some hm] at h
 subst h
 rw [← join_split hl, ← join_split hm]
def Vp (x : Perm) : Prop := x.ok ∧ checkS x = 0
theorem Vp.path {x : Perm} (h : Vp x) : splitOk x.path = true := by
 have := h.2
 unfold checkS at this
 cases hn : nmS x.act <;> cases hs : splitOk x.path <;> simp [hn, hs] at this ⊢
theorem IsCmp.map {α β : Type} {f : β → β → Int} (h : IsCmp f) (m : α → β) (hm : ∀ a b, m a = m b → a = b) : IsCmp fun a b => f (m a) (m b) :=
 ⟨fun a b => ⟨fun e => hm a b ((h.eq _ _).1 e), fun e => (h.eq _ _).2 (by rw [e])⟩, fun a b => h.anti _ _, fun a b c => h.tr _ _ _⟩
def keyP (x : Perm) : Str × List Str × Bool := (x.act, splitL x.path, x.deep)
theorem cmpM_lex {x y : Perm} (hx : Vp x) (hy : Vp y) : cmpM x y = lex cmpS (lex cmpL cmpB) (keyP x) (keyP y) := by
 have h1 := hx.path
 have h2 := hy.path
 simp only [cmpM, lex, keyP, cmpP, h1, h2, Bool.not_true, Bool.or_self, Bool.false_eq_true, if_false, Bool.and_self, if_true]
 by_cases hc : cmpS x.act y.act = 0
 ·by_cases h : cmpL (splitL x.path) (splitL y.path) = 0
  ·by_cases hd : x.deep = y.deep
   ·simp [hc, h, hd, cmpB]
   ·simp [hc, h, hd, cmpB]
  ·simp [hc, h]
 ·simp [hc]
theorem keyP_inj {x y : Perm} (hx : Vp x) (hy : Vp y) (h : keyP x = keyP y) : x = y := by
 obtain ⟨a, p, d⟩ := x; obtain ⟨a', p', d'⟩ := y
 simp only [keyP, Prod.mk.injEq] at h
 obtain ⟨rfl, h2, rfl⟩ := h
 have := split_inj hx.path hy.path h2
 simp at this; subst this; rfl
abbrev VP := { x : Perm // Vp x }
theorem cmpV_is : IsCmp fun a b : VP => cmpM a.1 b.1 := by
 have h := (lex_is cmpS_is (lex_is cmpL_is cmpB_is)).map (fun a : VP => keyP a.1) (fun a b e => Subtype.ext (keyP_inj a.2 b.2 e))
 have e : (fun a b : VP => cmpM a.1 b.1) = fun a b : VP => lex cmpS (lex cmpL cmpB) (keyP a.1) (keyP b.1) := by
  funext a b; exact cmpM_lex a.2 b.2
 rw [e]; exact h
instance : Inhabited VP := ⟨⟨⟨[114, 101, 97, 100], [47], false⟩, ⟨by decide, by decide⟩, by decide⟩⟩
