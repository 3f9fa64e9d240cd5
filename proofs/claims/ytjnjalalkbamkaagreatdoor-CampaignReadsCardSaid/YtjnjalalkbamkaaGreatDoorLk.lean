/- Several texts in one file. -/
import Derived.Test.YtjnjalalkbamkaaGreatDoorRng
import Derived.Test.YtjnjalalkbamkaaGreatDoorPure11f
import Derived.Test.YtjnjalalkbamkaaGreatDoorWpr
import Derived.Test.YtjnjalalkbamkaaGreatDoorShelf
import Derived.Test.YtjnjalalkbamkaaGreatDoorOwn
import Derived.Test.YtjnjalalkbamkaaGreatDoorNorm
set_option linter.unusedSimpArgs false
set_option linter.unusedVariables false
set_option linter.unnecessarySimpa false
/- Links: what a list of pairs reaches; the closure of a set of roles, of a hierarchy and of the reference. Nothing of a program stands here. -/
namespace Go.Lx
open Go
theorem rch_congr {ps qs : List Pr} (h : ∀ x, x ∈ ps → x ∈ qs) {a b : Fin 64} (r : Rch ps a b) : Rch qs a b := by
 induction r with
 | one h1 => exact .one (h _ h1)
 | snoc _ h2 ih => exact .snoc ih (h _ h2)
theorem BelS.congr {ps qs : List Pr} (h : ∀ x, x ∈ ps ↔ x ∈ qs) {f : Nat → W64} (hb : BelS ps f) : BelS qs f := fun a c =>
 (hb a c).trans ⟨rch_congr fun x => (h x).1, rch_congr fun x => (h x).2⟩
theorem AboS.congr {ps qs : List Pr} (h : ∀ x, x ∈ ps ↔ x ∈ qs) {f : Nat → W64} (hb : AboS ps f) : AboS qs f := fun b c =>
 (hb b c).trans ⟨rch_congr fun x => (h x).1, rch_congr fun x => (h x).2⟩
theorem setW_ex (p : Fin 64 → Prop) : ∃ x : W64, ∀ c : Fin 64, x.getLsbD c.val = true ↔ p c := by
 classical
 refine ⟨ofW (((List.finRange 64).filter fun c => decide (p c)).map iv), fun c => ?_⟩
 rw [ofW_get _ (by intro q hq; obtain ⟨a, _, rfl⟩ := List.mem_map.1 hq; exact iv_ge a)]
 rw [List.any_eq_true]
 constructor
 ·rintro ⟨q, hq, e⟩
  obtain ⟨a, ha, rfl⟩ := List.mem_map.1 hq
  have : a = c := iv_inj.1 (by unfold iv at e ⊢; simpa using e)
  subst this
  simpa using (List.mem_filter.1 ha).2
 ·intro h
  exact ⟨iv c, List.mem_map.2 ⟨c, List.mem_filter.2 ⟨List.mem_finRange c, by simpa using h⟩, rfl⟩, by simp [iv]⟩
def JunIs (L : List Pr) (r : Fin 64) (J : W64) : Prop := ∀ c : Fin 64, J.getLsbD c.val = true ↔ (c = r ∨ Rch L r c)
theorem JunIs.ex (L : List Pr) (r : Fin 64) : ∃ J, JunIs L r J := setW_ex _
def nxt (L : List Pr) (s : W64) : W64 := L.foldl (fun n x => if s.getLsbD x.1.val = true then n ||| oneW x.2.val else n) s
theorem nxt_aux (s : W64) (c : Fin 64) : ∀ (L : List Pr) (n : W64), (L.foldl (fun n x => if s.getLsbD x.1.val = true then n ||| oneW x.2.val else n) n).getLsbD c.val = true ↔ n.getLsbD c.val = true ∨ ∃ x ∈ L, s.getLsbD x.1.val = true ∧ x.2 = c
 | [], n => by simp
 | y :: L, n => by
  rw [List.foldl_cons, nxt_aux s c L]
  have e : (oneW y.2.val).getLsbD c.val = true ↔ y.2 = c := by
   rw [oneW_get _ _ y.2.isLt, decide_eq_true_eq]
   exact ⟨fun h => Fin.ext h.symm, fun h => by rw [h]⟩
  by_cases h : s.getLsbD y.1.val = true
  ·rw [if_pos h, BitVec.getLsbD_or, Bool.or_eq_true, e]
   constructor
   ·rintro ((h1 | h1) | ⟨x, h1, h2⟩)
    ·exact .inl h1
    ·exact .inr ⟨y, by simp, h, h1⟩
    ·exact .inr ⟨x, by simp [h1], h2⟩
   ·rintro (h1 | ⟨x, h1, h2, h3⟩)
    ·exact .inl (.inl h1)
    ·rcases List.mem_cons.1 h1 with rfl | h1
     ·exact .inl (.inr h3)
     ·exact .inr ⟨x, h1, h2, h3⟩
  ·rw [if_neg h]
   constructor
   ·rintro (h1 | ⟨x, h1, h2⟩)
    ·exact .inl h1
    ·exact .inr ⟨x, by simp [h1], h2⟩
   ·rintro (h1 | ⟨x, h1, h2, h3⟩)
    ·exact .inl h1
    ·rcases List.mem_cons.1 h1 with rfl | h1
     ·exact absurd h2 h
     ·exact .inr ⟨x, h1, h2, h3⟩
theorem nxt_get (L : List Pr) (s : W64) (c : Fin 64) : (nxt L s).getLsbD c.val = true ↔ s.getLsbD c.val = true ∨ ∃ x ∈ L, s.getLsbD x.1.val = true ∧ x.2 = c := nxt_aux s c L s
structure JIn (L : List Pr) (r : Fin 64) (s : W64) : Prop where
 has : s.getLsbD r.val = true
 sub : ∀ c : Fin 64, s.getLsbD c.val = true → c = r ∨ Rch L r c
theorem JIn.start (L : List Pr) (r : Fin 64) : JIn L r (oneW r.val) := by
 have e : ∀ c : Fin 64, (oneW r.val).getLsbD c.val = true ↔ c = r := fun c => by
  rw [oneW_get _ _ r.isLt, decide_eq_true_eq]
  exact ⟨fun h => Fin.ext h, fun h => by rw [h]⟩
 exact ⟨(e r).2 rfl, fun c h => .inl ((e c).1 h)⟩
theorem JIn.next {L : List Pr} {r : Fin 64} {s : W64} (h : JIn L r s) : JIn L r (nxt L s) := by
 refine ⟨(nxt_get _ _ _).2 (.inl h.has), fun c hc => ?_⟩
 rcases (nxt_get _ _ _).1 hc with hc | ⟨x, h1, h2, rfl⟩
 ·exact h.sub c hc
 ·rcases h.sub x.1 h2 with e | h3
  ·exact .inr (.one (by rw [← e]; exact h1))
  ·exact .inr (.snoc h3 h1)
theorem JIn.done {L : List Pr} {r : Fin 64} {s : W64} (h : JIn L r s) (e : nxt L s = s) : JunIs L r s := fun c => by
 refine ⟨h.sub c, ?_⟩
 rintro (rfl | hr)
 ·exact h.has
 ·induction hr with
  | one h1 => rw [← e]; exact (nxt_get _ _ _).2 (.inr ⟨_, h1, h.has, rfl⟩)
  | snoc _ h2 ih => rw [← e]; exact (nxt_get _ _ _).2 (.inr ⟨_, h2, ih, rfl⟩)
def ClosTo (L : List Pr) (s : W64) (k : Nat) (C : W64) : Prop := ∀ c : Fin 64, C.getLsbD c.val = true ↔ ∃ r : Fin 64, 1 ≤ r.val ∧ r.val < k ∧ s.getLsbD r.val = true ∧ (c = r ∨ Rch L r c)
theorem ClosTo.start (L : List Pr) (s : W64) : ClosTo L s 1 0 := fun c => by
 constructor
 ·intro h; simp at h
 ·rintro ⟨r, h1, h2, _⟩; omega
theorem ClosTo.no {L : List Pr} {s : W64} {k : Nat} {C : W64} (h : ClosTo L s k C) (hk : s.getLsbD k = false) : ClosTo L s (k + 1) C := fun c => by
 rw [h c]
 constructor
 ·rintro ⟨r, h1, h2, h3⟩; exact ⟨r, h1, by omega, h3⟩
 ·rintro ⟨r, h1, h2, h3, h4⟩
  have : r.val ≠ k := fun e => by rw [e, hk] at h3; cases h3
  exact ⟨r, h1, by omega, h3, h4⟩
structure HOk (o : OV) (L : List Pr) : Prop where
 n : o.n = 64
 ps : ∀ x, x ∈ o.pairs ↔ x ∈ L
 le : o.pairs.length ≤ L.length
 be : BelS L (xsO o.below)
 ab : AboS L (xsO o.above)
theorem HOk.jun {o : OV} {L : List Pr} (h : HOk o L) {r : Fin 64} (hr : 1 ≤ r.val) : JunIs L r (junO o r.val) := fun c => by
 have h1 := r.isLt
 unfold junO belO
 rw [if_pos ⟨by omega, by omega⟩, if_pos ⟨by omega, by rw [h.n]; omega⟩, Int.toNat_natCast, BitVec.getLsbD_or, Bool.or_eq_true, oneW_get _ _ h1, decide_eq_true_eq]
 show (xsO o.below r.val).getLsbD c.val = true ∨ _ ↔ _
 rw [h.be r c]
 constructor
 ·rintro (h2 | h2)
  ·exact .inr h2
  ·exact .inl (Fin.ext h2)
 ·rintro (rfl | h2)
  ·exact .inr rfl
  ·exact .inl h2
theorem closH_get (H : Option OV) (c : Fin 64) : ∀ (l : List Int) (x : W64), (l.foldl (fun x r => x ||| junH H r) x).getLsbD c.val = true ↔ x.getLsbD c.val = true ∨ ∃ r ∈ l, (junH H r).getLsbD c.val = true
 | [], x => by simp
 | y :: l, x => by
  rw [List.foldl_cons, closH_get H c l, BitVec.getLsbD_or, Bool.or_eq_true]
  constructor
  ·rintro ((h | h) | ⟨r, h1, h2⟩)
   ·exact .inl h
   ·exact .inr ⟨y, by simp, h⟩
   ·exact .inr ⟨r, by simp [h1], h2⟩
  ·rintro (h | ⟨r, h1, h2⟩)
   ·exact .inl (.inl h)
   ·rcases List.mem_cons.1 h1 with rfl | h1
    ·exact .inl (.inr h2)
    ·exact .inr ⟨r, h1, h2⟩
def closW (o : OV) (s : W64) : W64 := closH (some o) (memW s 64)
theorem HOk.clos {o : OV} {L : List Pr} (h : HOk o L) (s : W64) : ClosTo L s 64 (closW o s) := fun c => by
 unfold closW closH
 rw [closH_get]
 constructor
 ·rintro (h1 | ⟨r, h1, h2⟩)
  ·simp at h1
  ·obtain ⟨h3, h4⟩ := memW_ok s r h1
   obtain ⟨k, rfl⟩ : ∃ k : Fin 64, r = (k.val : Int) := ⟨⟨r.toNat, by omega⟩, by simp; omega⟩
   have h5 : 1 ≤ k.val := by
    rcases Nat.eq_zero_or_pos k.val with e | e
    ·exfalso
     have : junH (some o) (k.val : Int) = 0 := by
      show junO o (k.val : Int) = 0
      unfold junO; rw [if_neg (by omega)]
     rw [this] at h2; simp at h2
    ·exact e
   exact ⟨k, h5, k.isLt, (mem_val).1 h1, (h.jun h5 c).1 h2⟩
 ·rintro ⟨r, h1, _, h3, h4⟩
  exact .inr ⟨(r.val : Int), mem_val.2 h3, (h.jun h1 c).2 h4⟩
section
variable {o : OV} {L : List Pr} (h : HOk o L)
include h
theorem HOk.mono {s t : W64} (hs : ∀ i, s.getLsbD i = true → t.getLsbD i = true) : subW (closW o s) (closW o t) = true := by
 refine sub_iff.2 fun i hi => ?_
 rcases Nat.lt_or_ge i 64 with hl | hl
 ·obtain ⟨r, h1, h2, h3, h4⟩ := (h.clos s ⟨i, hl⟩).1 hi
  exact (h.clos t ⟨i, hl⟩).2 ⟨r, h1, h2, hs _ h3, h4⟩
 ·rw [BitVec.getLsbD_of_ge _ _ hl] at hi; cases hi
end
structure LkOk (L : List Pr) (ρ : Fin 64 → Nat) : Prop where
 rk : ∀ x ∈ L, ρ x.1 < ρ x.2
 nd : L.Nodup
 po : ∀ x ∈ L, 1 ≤ x.1.val ∧ 1 ≤ x.2.val
theorem LkOk.nil (ρ : Fin 64 → Nat) : LkOk [] ρ := ⟨by simp, List.nodup_nil, by simp⟩
def InsP (L : List Pr) (x : Pr) (M : List Pr) : Prop := ∃ i, i ≤ L.length ∧ M = L.take i ++ x :: L.drop i
theorem InsP.mem {L M : List Pr} {x : Pr} (h : InsP L x M) (y : Pr) : y ∈ M ↔ y = x ∨ y ∈ L := by
 obtain ⟨i, _, rfl⟩ := h
 have e : y ∈ L ↔ y ∈ L.take i ∨ y ∈ L.drop i := by rw [← List.mem_append, List.take_append_drop]
 rw [e, List.mem_append, List.mem_cons]
 constructor
 ·rintro (h | h | h)
  ·exact .inr (.inl h)
  ·exact .inl h
  ·exact .inr (.inr h)
 ·rintro (h | h | h)
  ·exact .inr (.inl h)
  ·exact .inl h
  ·exact .inr (.inr h)
theorem InsP.len {L M : List Pr} {x : Pr} (h : InsP L x M) : M.length = L.length + 1 := by
 obtain ⟨i, hi, rfl⟩ := h
 simp; omega
theorem LkOk.ins {L M : List Pr} {ρ : Fin 64 → Nat} {x : Pr} (h : LkOk L ρ) (hi : InsP L x M) (hn : x ∉ L) (hr : ρ x.1 < ρ x.2) (hp : 1 ≤ x.1.val ∧ 1 ≤ x.2.val) : LkOk M ρ := by
 refine ⟨fun y hy => ?_, ?_, fun y hy => ?_⟩
 ·rcases (hi.mem y).1 hy with rfl | hy
  ·exact hr
  ·exact h.rk y hy
 ·obtain ⟨i, _, rfl⟩ := hi
  have e := h.nd
  rw [← List.take_append_drop i L, List.nodup_append] at e
  obtain ⟨e1, e2, e3⟩ := e
  rw [List.nodup_append, List.nodup_cons]
  refine ⟨e1, ⟨fun hx => hn (List.mem_of_mem_drop hx), e2⟩, fun a ha b hb => ?_⟩
  rcases List.mem_cons.1 hb with rfl | hb
  ·rintro rfl; exact hn (List.mem_of_mem_take ha)
  ·exact e3 a ha b hb
 ·rcases (hi.mem y).1 hy with rfl | hy
  ·exact hp
  ·exact h.po y hy
end Go.Lx
/- Orders and hierarchies as results; calls that make own slices in a region that draws. Nothing of a program stands here. -/
namespace Go.Lx
open Go Go.RowKit
theorem mem_comp {α : Type} [BEq α] [LawfulBEq α] (x : α) : ∀ (l acc : List α), x ∈ l.foldl compStep acc ↔ x ∈ acc ∨ x ∈ l
 | [], acc => by simp
 | y :: l, acc => by
  rw [List.foldl_cons, mem_comp x l]
  unfold compStep
  split
  ·rename_i h
   have hy : y ∈ acc := List.mem_of_getLast? (by simpa using h)
   constructor
   ·rintro (h1 | h1)
    ·exact .inl h1
    ·exact .inr (by simp [h1])
   ·rintro (h1 | h1)
    ·exact .inl h1
    ·rcases List.mem_cons.1 h1 with rfl | h1
     ·exact .inl hy
     ·exact .inr h1
  ·simp only [List.mem_append, List.mem_cons, List.not_mem_nil, or_false]
   exact or_assoc
theorem mem_compL {α : Type} [BEq α] [LawfulBEq α] (x : α) (l : List α) : x ∈ compL l ↔ x ∈ l := by
 unfold compL; rw [mem_comp]; simp
theorem comp_len {α : Type} [BEq α] : ∀ (l acc : List α), (l.foldl compStep acc).length ≤ acc.length + l.length
 | [], acc => by simp
 | y :: l, acc => by
  rw [List.foldl_cons]
  refine Nat.le_trans (comp_len l _) ?_
  unfold compStep
  split
  ·simp
  ·simp; omega
theorem compL_len {α : Type} [BEq α] (l : List α) : (compL l).length ≤ l.length := by
 have := comp_len l []
 simpa [compL] using this
theorem HOk.congr {o : OV} {L M : List Pr} (h : HOk o L) (hm : ∀ x, x ∈ L ↔ x ∈ M) (hl : L.length ≤ M.length) : HOk o M :=
 ⟨h.n, fun x => (h.ps x).trans (hm x), Nat.le_trans h.le hl, h.be.congr hm, h.ab.congr hm⟩
section
variable {α : Type} {enc : α → List Value} {s : Nat} {e : TypeId} {β : Prop} {P : Program} {ops : Array Oper} {o : Oper} {fr : Fr} {w : World} {c : Nat → Nat} {f : FuncId} {args : Array Value} {l : List α} {kc : Nat}
theorem OpC_own (hg : o.guard = none) (h : xop P fr w o = .ok (.enter f args) w) (hk : Ok P f args w fun v' w' => Own enc s e (Fsh w w') w' v' l ∧ Ext β w w') (hd : o.dst.isSome = true := by rfl) : OpC β kc P ops o fr w c (postOwn enc s e kc l) :=
 .inl ⟨by simp [Region.wanted, hg], .inr ⟨f, args, w, h, hd, hk.mono fun v' w' ⟨h1, x⟩ => ⟨newC c w kc, StepC.ext x fun _ hb => newC_old hb, h1.mono fun b _ hb => newC_new hb.1⟩⟩⟩
end
def KeepS (S : (Nat → Prop) → Value → World → Prop) : Prop := ∀ (F : Nat → Prop) (v : Value) (γ : Prop) (D : Nat → Prop) (w w' : World), Bel γ D w w' → (∀ b, b < w.heap.size → F b → ¬ D b) → S F v w → S F v w'
def postW (S : (Nat → Prop) → Value → World → Prop) : PostC := fun v w c => ∃ F, (∀ b, F b → b < w.heap.size ∧ c b = 0) ∧ S F v w
theorem postW_stable {S : (Nat → Prop) → Value → World → Prop} {kc : Nat} (hS : KeepS S) : StableC kc (postW S) := by
 intro v w c w' c' q hq hx ⟨F, hF, hr⟩
 refine ⟨F, fun b hb => ⟨Nat.lt_of_lt_of_le (hF b hb).1 hx.bel.size, (hx.col b (hF b hb).1).trans (hF b hb).2⟩, hS _ _ _ _ _ _ hx.bel (fun b _ hb hd => hd.1 ?_) hr⟩
 rw [← hd.2]; exact (hF b hb).2
theorem OpC_W {S : (Nat → Prop) → Value → World → Prop} {β : Prop} {k : Nat} {P : Program} {ops : Array Oper} {o : Oper} {fr : Fr} {w : World} {c : Nat → Nat} {f : FuncId} {args : Array Value} (hg : o.guard = none) (h : xop P fr w o = .ok (.enter f args) w) (hk : Ok P f args w fun v' w' => S (Fsh w w') v' w' ∧ Ext β w w') (hd : o.dst.isSome = true := by rfl) : OpC β k P ops o fr w c (postW S) :=
 .inl ⟨by simp [Region.wanted, hg], .inr ⟨f, args, w, h, hd, hk.mono fun _ w' ⟨a, b⟩ => ⟨newC c w 0, StepC.ext b fun _ hb => newC_old hb, Fsh w w', fun b hb => ⟨hb.2, newC_new hb.1⟩, a⟩⟩⟩
def OdRes (L : List Pr) (F : Nat → Prop) (v : Value) (w : World) : Prop := ∃ p o, v = .tuple #[.pointer (some ⟨p, 0, none⟩), .int .i64 0] ∧ OdAt F w p o ∧ HOk o L
def OdPtr (L : List Pr) (F : Nat → Prop) (v : Value) (w : World) : Prop := ∃ p o, v = .pointer (some ⟨p, 0, none⟩) ∧ OdAt F w p o ∧ HOk o L
theorem OdRes.keepS (L : List Pr) : KeepS (OdRes L) := fun F v γ D w w' x hd ⟨p, o, h1, h2, h3⟩ => ⟨p, o, h1, h2.keep x hd, h3⟩
theorem OdPtr.keepS (L : List Pr) : KeepS (OdPtr L) := fun F v γ D w w' x hd ⟨p, o, h1, h2, h3⟩ => ⟨p, o, h1, h2.keep x hd, h3⟩
def HyIs (w : World) (v : Value) (L : List Pr) : Prop := ∃ ph po o, v = .pointer (some ⟨ph, 0, none⟩) ∧ At w ph 0 [.pointer (some ⟨po, 0, none⟩)] ∧ OdAt (Lt w.heap.size) w po o ∧ HOk o L
theorem HyIs.ext {γ : Prop} {w w' : World} {v : Value} {L : List Pr} (h : HyIs w v L) (x : Ext γ w w') : HyIs w' v L :=
 let ⟨ph, po, o, h1, h2, h3, h4⟩ := h
 ⟨ph, po, o, h1, h2.keep x id, (h3.ext x).mono fun _ hb _ => hb, h4⟩
theorem HyIs.congr {w : World} {v : Value} {L M : List Pr} (h : HyIs w v L) (hm : ∀ x, x ∈ L ↔ x ∈ M) (hl : L.length ≤ M.length) : HyIs w v M :=
 let ⟨ph, po, o, h1, h2, h3, h4⟩ := h
 ⟨ph, po, o, h1, h2, h3, h4.congr hm hl⟩
theorem Rd.keepS {α : Type} (enc : α → List Value) (k : Nat) (p : List α → Prop) : KeepS fun F v w => ∃ l, Rd enc k F w v l ∧ p l := fun F v γ D w w' x hd ⟨l, h1, h2⟩ => ⟨l, h1.keep x hd, h2⟩
def LkP (L : List Pr) (x : Pr) (M : List Pr) : Prop := x ∈ L ∧ M = L ∨ x ∉ L ∧ InsP L x M
def LkRes (L : List Pr) (x : Pr) (F : Nat → Prop) (v : Value) (w : World) : Prop := ∃ u M e, v = .tuple #[u, .int .i64 e] ∧ Rd encPr 2 F w u M ∧ LkP L x M
theorem LkRes.keepS (L : List Pr) (x : Pr) : KeepS (LkRes L x) := fun F v γ D w w' x hd ⟨u, M, e, h1, h2, h3⟩ => ⟨u, M, e, h1, h2.keep x hd, h3⟩
theorem LkP.ok {L M : List Pr} {x : Pr} {ρ : Fin 64 → Nat} (h : LkOk L ρ) (hp : LkP L x M) (hr : ρ x.1 < ρ x.2) (hq : 1 ≤ x.1.val ∧ 1 ≤ x.2.val) : LkOk M ρ ∧ M.length ≤ L.length + 1 := by
 rcases hp with ⟨_, rfl⟩ | ⟨hn, hi⟩
 ·exact ⟨h, by omega⟩
 ·exact ⟨h.ins hi hn hr hq, by rw [hi.len]; omega⟩
section
variable {P : Program} {fr : Fr} {w : World} {d : Option Nat} {t : TypeId} {ps : String} {af : Array Edge} {g : Option (Nat × Bool)}
theorem o_convU {T U : TypeId} {x : Operand} {a : W64} {n : Nat} (hP : P.underlying T = some (.int .u64)) (hP' : P.underlying U = some (.int .i64)) (hx : ev fr x = u64 a) (hn : a.toNat = n) (hl : n < 9223372036854775808) : xop P fr w ⟨d, .convert T U x, t, ps, af, g⟩ = .ok (.value (.int .i64 (n : Int))) w := by
 have h := o_conv (w := w) (d := d) (t := t) (ps := ps) (af := af) (g := g) (k' := .i64) hP hP' hx
 have e : IntKind.i64.wrap (a.toNat : Int) = (n : Int) := by rw [hn]; exact wrap_in (by unfold I64; omega)
 rw [e] at h
 exact h
end
section
variable {α : Type} {enc : α → List Value} {k : Nat} {F : Nat → Prop} {P : Program} {fr : Fr} {w : World} {d : Option Nat} {t : TypeId} {ps : String} {af : Array Edge} {g : Option (Nat × Bool)} {a : Option Addr} {c i m : Nat} {l : List α} {y : α} {T : TypeId} {x z : Operand}
theorem o_faE {fs : Array Field} {f n : Nat} {G : Field} (hP : P.underlying T = some (.struct fs)) (hf : fs[f]? = some G) (hs : ∀ w, (sizeOf G.type).run P w = .ok (n + 1) w) (hr : Sl enc k F w a c l) (hx : ev fr x = .pointer (elp a m)) (hi : l[i]? = some y) :
  xop P fr w ⟨d, .fieldAddr T x f, t, ps, af, g⟩ = .ok (.value (.pointer (elp a (m + G.offset)))) w := by
 obtain ⟨b, off, rfl, _, _, _⟩ := hr.el i _ hi
 rw [elp_some] at hx ⊢
 rw [← Nat.add_assoc]
 exact Qx hP hf hs hx
theorem o_ldE {j : Nat} {v : Value} (ha : ∀ w, (isAgg T).run P w = .ok false w) (hr : Sl enc k F w a c l) (hx : ev fr x = .pointer (elp a (i * k + j))) (hi : l[i]? = some y) (hv : (enc y)[j]? = some v) :
  xop P fr w ⟨d, .load T x, t, ps, af, g⟩ = .ok (.value v) w := by
 obtain ⟨b, off, rfl, _, h3, _⟩ := hr.el i _ hi
 rw [elp_some] at hx
 have h := h3 j v hv
 rw [Nat.add_assoc] at h
 exact Qn ha hx h
end
theorem o_slfrom2 {P : Program} {fr : Fr} {w : World} {d : Option Nat} {t e T : TypeId} {ps : String} {af : Array Edge} {g : Option (Nat × Bool)} {x y : Operand} {a : Option Addr} {m c s j : Nat} (hP : P.underlying T = some (.slice e)) (hs : ∀ w, (sizeOf e).run P w = .ok s w) (hx : ev fr x = .slice a m c) (hj : ev fr y = .int .i64 (j : Int)) (hl : j ≤ m) (hc : m ≤ c) :
  xop P fr w ⟨d, .slice T x (some y) none none, t, ps, af, g⟩ = .ok (.value (.slice (if c = j then a else elp a (j * s)) (m - j) (c - j))) w := by
 rcases Nat.lt_or_ge j c with h | h
 ·rw [if_neg (by omega)]; exact o_sfromO hP hs hx hj hl h
 ·obtain rfl : c = j := by omega
  obtain rfl : m = c := by omega
  rw [if_pos rfl]
  simp [xop, execOp, hx, hj, Instr.slice, Instr.sliceAt, Instr.sliceBounds, Instr.sliceBound, asIntOf, run_underlying hP, hs, elp]
theorem o_convV {P : Program} {fr : Fr} {w : World} {d : Option Nat} {t : TypeId} {ps : String} {af : Array Edge} {g : Option (Nat × Bool)} {T U : TypeId} {x : Operand} {n : Nat} (hP : P.underlying T = some (.int .i64)) (hP' : P.underlying U = some (.int .u64)) (hx : ev fr x = .int .i64 (n : Int)) (hl : n < 18446744073709551616) : xop P fr w ⟨d, .convert T U x, t, ps, af, g⟩ = .ok (.value (u64 (BitVec.ofNat 64 n))) w := by
 have h := o_conv (w := w) (d := d) (t := t) (ps := ps) (af := af) (g := g) (k' := .u64) hP hP' hx
 rw [wrapU'] at h
 exact h
def SvIs (e : W64) (F : Nat → Prop) (v : Value) (w : World) : Prop := ∃ a c, v = .agg (encSV ⟨a, c, e⟩).toArray ∧ Sl encU 1 F w a c (wl e)
theorem SvIs.keepS (e : W64) : KeepS (SvIs e) := fun F v γ D w w' x hd ⟨a, c, h1, h2⟩ => ⟨a, c, h1, h2.keep x hd⟩
theorem o_convB8 {P : Program} {fr : Fr} {w : World} {d : Option Nat} {t : TypeId} {ps : String} {af : Array Edge} {g : Option (Nat × Bool)} {T U : TypeId} {x : Operand} {b : UInt8} (hP : P.underlying T = some (.int .u8)) (hP' : P.underlying U = some (.int .u64)) (hx : ev fr x = .int .u8 (b.toNat : Int)) : xop P fr w ⟨d, .convert T U x, t, ps, af, g⟩ = .ok (.value (u64 (BitVec.ofNat 64 b.toNat))) w := by
 have h := o_conv (w := w) (d := d) (t := t) (ps := ps) (af := af) (g := g) (k' := .u64) hP hP' hx
 rw [wrapU'] at h
 exact h
def postBoxK (w0 : World) (T : TypeId) (cs : List Value) (kc : Nat) : PostC := fun v w c => ∃ b, v = .pointer (some ⟨b, 0, none⟩) ∧ w0.heap.size ≤ b ∧ Box w b T cs ∧ c b = kc
theorem postBoxK_stable {w0 : World} {T : TypeId} {cs : List Value} {kc : Nat} : StableC kc (postBoxK w0 T cs kc) := by
 rintro v w c w' c' q hq hx ⟨b, h1, h2, h3, h4⟩
 exact ⟨b, h1, h2, h3.keep hx.bel fun hd => hq.elim hd.1 (fun h => h (by rw [← hd.2]; exact h4)), (hx.col b h3.lt).trans h4⟩
theorem OpC_boxK {β : Prop} {P : Program} {fr : Fr} {w w0 : World} {c : Nat → Nat} {ops : Array Oper} {kc : Nat} {T : TypeId} {z : Value} {o : Oper} (hw : w0.heap.size ≤ w.heap.size) (hg : o.guard = none) (h : xop P fr w o = .ok (.value (.pointer (some ⟨w.heap.size, 0, none⟩))) (w.alloc (.cells z.cells T))) (hd : o.dst.isSome = true := by rfl) : OpC β kc P ops o fr w c (postBoxK w0 T z.cells.toList kc) :=
 .inl ⟨by simp [Region.wanted, hg], .inl ⟨_, _, newC c w kc, .inl ⟨h, hd⟩, StepC.ext (Ext.alloc _ _) fun _ hb => newC_old hb, w.heap.size, rfl, hw, Box.alloc w z.cells T, newC_new (Nat.le_refl _)⟩⟩
theorem OpC_storeLk {β : Prop} {P : Program} {fr : Fr} {w w0 : World} {c : Nat → Nat} {ops : Array Oper} {ty : TypeId} {pos : String} {after : Array Edge} {kc s b m : Nat} {U T : TypeId} {y : Operand} {cs : List Value} {v : Value} (h0 : kc ≠ 0) (hs : ∀ w, (sizeOf U).run P w = .ok m w) (hx : ev fr (.tmp s) = .pointer (some ⟨b, 0, none⟩)) (hy : ev fr y = v) (hn : w0.heap.size ≤ b) (hb : Box w b T cs) (hc : c b = kc) (hv : v.cells.toList.length = m) (h1 : oneL v.cells.toList = true) (hle : v.cells.toList.length = cs.length) :
  OpC β kc P ops ⟨none, .store U (.tmp s) y, ty, pos, after, none⟩ fr w c (postBoxK w0 T v.cells.toList kc) := by
 have h := OpC_storeW (β := β) (ops := ops) (ty := ty) (pos := pos) (after := after) (x := .tmp s) h0 hs hx hy hb hc hv h1 hle
 have hl : lkV ⟨none, .store U (.tmp s) y, ty, pos, after, none⟩ fr = .pointer (some ⟨b, 0, none⟩) := hx
 rcases h with ⟨hw, ⟨u, w', c', hr, hx2, hS⟩ | ⟨f, args, w1, hr, hd, _⟩⟩ | ⟨hw, _⟩
 ·refine .inl ⟨hw, .inl ⟨lkV ⟨none, .store U (.tmp s) y, ty, pos, after, none⟩ fr, w', c', ?_, hx2, ?_⟩⟩
  ·rcases hr with ⟨_, hd⟩ | ⟨hr, _⟩
   ·cases hd
   ·exact .inr ⟨hr, rfl⟩
  ·rw [hl]
   exact ⟨b, rfl, hn, hS.1, hS.2⟩
 ·cases hd
 ·cases hw
end Go.Lx
/- slices.SortFunc over pairs, by the library's contract, laid at this translation. -/
namespace Go.Proofs.YtjnjalalkbamkaaGreatDoor
open Go Go.Lx Go.RowKit Go.Shelf Go.Lib Go.Sort
set_option maxRecDepth 100000
theorem swoPr : Sort.SWO (ltOf cmpPr) where
 irrefl x := by simp [ltOf, (cmpPr_is.eq x x).2 rfl]
 trans x y z h1 h2 := by
  simp only [ltOf, decide_eq_true_eq] at *
  exact cmpPr_is.tr _ _ _ h1 h2
 ntrans x y z h1 h2 := by
  simp only [ltOf, decide_eq_false_iff_not] at *
  intro h
  have a1 := cmpPr_is.anti x y
  have a2 := cmpPr_is.anti y z
  have a3 := cmpPr_is.anti x z
  by_cases e : cmpPr x y = 0
  ·have := (cmpPr_is.eq x y).1 e; subst this; omega
  ·by_cases e2 : cmpPr y z = 0
   ·have := (cmpPr_is.eq y z).1 e2; subst this; omega
   ·have := cmpPr_is.tr z y x (by omega) (by omega); omega
theorem cmpLaysPr (blk off size : Nat) (w : World) : CmpLays Tryz.prog 122 #[] encPr 2 cmpPr blk off size w :=
 fun m os dk _ x y => Calls.mono (ocmp_ok True (sortWorldK encPr 2 w blk off m dk os) x y) fun _ _ ⟨_, h1, h2, h3⟩ => ⟨by rw [h1, h2], ext_grow h3⟩
theorem sortpr_ok (D : Nat → Prop) (v : Value) (l : List Pr) (w : World) (ho : Own encPr 2 47 D w v l) (hl : l.length ≤ 1000000) :
  Ok Tryz.prog 121 #[v, .func (.func 122) #[] #[]] w fun v' w' => v' = .tuple #[] ∧ Bel False D w w' ∧ ∃ l' : List Pr, l'.Perm l ∧ l'.Pairwise (fun x y => cmpPr x y ≤ 0) ∧ Own encPr 2 47 D w' v l' := by
 rcases ho.row.2 with ⟨h1, h2⟩ | ⟨g, cap, cur, h1, h2, h3, _⟩
 ·have : l = [] := List.eq_nil_of_length_eq_zero h2
  subst this h1
  have hcon := AnyF.slices_SortFunc_none Tryz.sortI0 none 0 (.func (.func 122) #[] #[]) w
  change Calls Tryz.prog 121 _ _ _ at hcon
  exact Calls.mono hcon fun e w' ⟨h1, h2⟩ => ⟨_, h1, rfl, by rw [h2]; exact Bel.refl _ _, [], List.Perm.refl _, List.Pairwise.nil, by rw [h2]; exact Own.nil _ _⟩
 ·subst h1
  have hlt : g < w.heap.size := (Array.getElem?_eq_some_iff.1 h3).1
  have hcon := AnyQ.slices_SortFunc Tryz.sortI0 2 Tryz.isAgg47 Tryz.sizeOf47 encPr encPr_ok.len encPr_ok.one cmpPr swoPr 122 #[] g 0 cap l.toArray w Tryz.call122 (cmpLaysPr _ _ _ _) (own_holds encPr_ok ho) hlt (by simp; omega)
  change Calls Tryz.prog 121 _ _ _ at hcon
  simp only [List.size_toArray] at hcon
  refine Calls.mono hcon ?_
  rintro e w' ⟨he, d', n, os, hp, hs, rfl⟩
  obtain ⟨hsz, _, hperm⟩ := hp
  have hsz' : d'.size = l.length := by simpa using hsz
  obtain ⟨ho', hb⟩ := own_sorted encPr_ok (n := n) (os := os) ho hsz'
  refine ⟨_, he, rfl, hb.weak, d'.toList, ?_, ?_, ho'⟩
  ·have e1 : d'.extract 0 l.length = d' := by rw [← hsz']; exact Array.extract_size
   have e2 : l.toArray.extract 0 l.length = l.toArray := by simp
   rw [e1, e2] at hperm
   exact hperm
  ·rw [List.pairwise_iff_getElem]
   intro i j hi hj hij
   have := hs i j (Nat.zero_le _) hij (by simpa [hsz'] using hj)
   simp only [ltOf, decide_eq_false_iff_not] at this
   have hi' : i < d'.size := by simpa using hi
   have hj' : j < d'.size := by simpa using hj
   rw [getElem!_pos d' i hi', getElem!_pos d' j hj'] at this
   have h2 := cmpPr_is.anti d'[j] d'[i]
   simp only [Array.getElem_toList]
   omega
end Go.Proofs.YtjnjalalkbamkaaGreatDoor
/- Books of grants: what the program and the reference make of them. Nothing of a program stands here. -/
namespace Go.Lx
open Go
structure Ent where
 r : Int
 p : Perm
 deriving DecidableEq
def encE (e : Ent) : List Value := .int .i64 e.r :: encP e.p
theorem encE_ok : EncOk encE 4 := ⟨by decide, fun _ => rfl, fun x u hu => by
 simp [encE, encP] at hu
 rcases hu with rfl | rfl | rfl | rfl <;> rfl⟩
def ez : Ent := ⟨0, pz⟩
def cmpI (a b : Int) : Int := if a < b then -1 else if b < a then 1 else 0
def cmpE (a b : Ent) : Int := if a.r != b.r then cmpI a.r b.r else cmpM a.p b.p
theorem cmpI_is : IsCmp cmpI := by
 refine ⟨fun a b => ?_, fun a b => ?_, fun a b c => ?_⟩ <;> unfold cmpI <;> (repeat' split) <;> omega
def Ve (e : Ent) : Prop := 1 ≤ e.r ∧ e.r ≤ 63 ∧ Vp e.p
abbrev VE := { e : Ent // Ve e }
def keyE (e : VE) : Int × VP := (e.1.r, ⟨e.1.p, e.2.2.2⟩)
theorem cmpE_lex (x y : VE) : cmpE x.1 y.1 = lex cmpI (fun a b : VP => cmpM a.1 b.1) (keyE x) (keyE y) := by
 show (if x.1.r != y.1.r then cmpI x.1.r y.1.r else cmpM x.1.p y.1.p) = if cmpI x.1.r y.1.r != 0 then cmpI x.1.r y.1.r else cmpM x.1.p y.1.p
 have e := cmpI_is.eq x.1.r y.1.r
 by_cases h : x.1.r = y.1.r
 ·rw [if_neg (by simpa using h), if_neg (by simpa using e.2 h)]
 ·rw [if_pos (by simpa using h), if_pos (by simpa using fun q => h (e.1 q))]
theorem cmpE_is : IsCmp fun a b : VE => cmpE a.1 b.1 := by
 have h := (lex_is cmpI_is cmpV_is).map keyE (fun a b h => by
  have h1 := congrArg Prod.fst h
  have h2 := congrArg Prod.snd h
  apply Subtype.ext
  obtain ⟨⟨r, p⟩, ha⟩ := a
  obtain ⟨⟨s, q⟩, hb⟩ := b
  simp only [keyE, Subtype.mk.injEq] at h1 h2
  show (⟨r, p⟩ : Ent) = ⟨s, q⟩
  rw [h1, h2])
 have e : (fun a b : VE => cmpE a.1 b.1) = fun a b => lex cmpI (fun a b : VP => cmpM a.1 b.1) (keyE a) (keyE b) := by
  funext a b; exact cmpE_lex a b
 rw [e]; exact h
theorem cmpE_eq {a b : Ent} (ha : Ve a) (hb : Ve b) : cmpE a b = 0 ↔ a = b := by
 rw [cmpE_is.eq ⟨a, ha⟩ ⟨b, hb⟩]; simp
theorem cmpE_anti {a b : Ent} (ha : Ve a) (hb : Ve b) : cmpE b a = - cmpE a b := cmpE_is.anti ⟨a, ha⟩ ⟨b, hb⟩
theorem cmpE_tr {a b c : Ent} (ha : Ve a) (hb : Ve b) (hc : Ve c) (h : cmpE a b < 0) (k : cmpE b c < 0) : cmpE a c < 0 := cmpE_is.tr ⟨a, ha⟩ ⟨b, hb⟩ ⟨c, hc⟩ h k
structure OkG (m : List Ent) : Prop where
 asc : m.Pairwise (fun x y => cmpE x y < 0)
 ve : ∀ e ∈ m, Ve e
 len : m.length ≤ 1000
theorem OkG.nil : OkG [] := ⟨List.Pairwise.nil, by simp, by simp⟩
theorem asc_get {m : List Ent} (h : m.Pairwise (fun x y => cmpE x y < 0)) {i j : Nat} (hij : i < j) (hj : j < m.length) : cmpE (m.getD i ez) (m.getD j ez) < 0 := by
 have := List.pairwise_iff_getElem.1 h i j (by omega) hj hij
 simpa [List.getD, show i < m.length by omega, hj] using this
structure BsG (m : List Ent) (x : Ent) (i j : Nat) : Prop where
 le : i ≤ j
 len : j ≤ m.length
 low : ∀ t, t < i → cmpE (m.getD t ez) x < 0
 up : ∀ t, j ≤ t → t < m.length → 0 ≤ cmpE (m.getD t ez) x
theorem BsG.start (m : List Ent) (x : Ent) : BsG m x 0 m.length := ⟨Nat.zero_le _, Nat.le_refl _, fun t h => by omega, fun t h h2 => by omega⟩
section
variable {m : List Ent} {x : Ent} {i j : Nat} (h : BsG m x i j) (hm : OkG m) (hx : Ve x)
include h hm hx
theorem BsG.lo {k : Nat} (h1 : i ≤ k) (h2 : k < j) (hk : cmpE (m.getD k ez) x < 0) : BsG m x (k + 1) j := by
 have hl := h.len
 refine ⟨by omega, h.len, fun t ht => ?_, h.up⟩
 rcases Nat.lt_or_ge t k with h3 | h3
 ·exact cmpE_tr (hm.ve _ (gm (by omega))) (hm.ve _ (gm (by omega))) hx (asc_get hm.asc h3 (by omega)) hk
 ·obtain rfl : t = k := by omega
  exact hk
theorem BsG.hi {k : Nat} (h1 : i ≤ k) (h2 : k < j) (hk : ¬ cmpE (m.getD k ez) x < 0) : BsG m x i k := by
 have hl := h.len
 refine ⟨h1, by omega, h.low, fun t ht hl2 => ?_⟩
 rcases Nat.lt_or_ge k t with h3 | h3
 ·rcases Int.lt_or_le (cmpE (m.getD t ez) x) 0 with h4 | h4
  ·exact absurd (cmpE_tr (hm.ve _ (gm (by omega))) (hm.ve _ (gm (by omega))) hx (asc_get hm.asc h3 (by omega)) h4) hk
  ·exact h4
 ·obtain rfl : t = k := by omega
  omega
end
theorem getD_ex {m : List Ent} {e : Ent} (h : e ∈ m) : ∃ t, t < m.length ∧ m.getD t ez = e := by
 obtain ⟨t, ht, rfl⟩ := List.getElem_of_mem h
 exact ⟨t, ht, by simp [List.getD, ht]⟩
theorem BsG.fin {m : List Ent} {x : Ent} {i : Nat} (h : BsG m x i i) (hm : OkG m) (hx : Ve x) : (decide ((i : Int) < (m.length : Int)) && (cmpE (m.getD i ez) x == 0)) = decide (x ∈ m) := by
 rw [Bool.eq_iff_iff, Bool.and_eq_true, decide_eq_true_iff, decide_eq_true_iff, beq_iff_eq]
 constructor
 ·rintro ⟨h1, h2⟩
  have h1' : i < m.length := by omega
  have := (cmpE_eq (hm.ve _ (gm (z := ez) h1')) hx).1 h2
  rw [← this]; exact gm h1'
 ·intro hin
  obtain ⟨t, ht, e⟩ := getD_ex hin
  have h0 : cmpE (m.getD t ez) x = 0 := by rw [e]; exact (cmpE_eq hx hx).2 rfl
  rcases Nat.lt_trichotomy t i with h2 | h2 | h2
  ·have := h.low t h2; omega
  ·subst h2; exact ⟨by omega, h0⟩
  ·have h3 := h.up i (Nat.le_refl _) (by omega)
   have h4 := asc_get hm.asc h2 ht
   rw [e] at h4
   omega
theorem insGo_at {f : Ent → Ent → Int} {p : Ent} : ∀ {m : List Ent} {i : Nat}, i ≤ m.length → (∀ t, t < i → ¬ f p (m.getD t ez) < 0) → (i < m.length → f p (m.getD i ez) < 0) → insGo f p m = m.take i ++ [p] ++ m.drop i
 | [], i, h, _, _ => by
  obtain rfl : i = 0 := by simpa using h
  rfl
 | x :: r, 0, _, _, h2 => by
  have := h2 (by simp)
  rw [insGo, if_pos (by simpa using this)]; rfl
 | x :: r, i + 1, h, h1, h2 => by
  have h0 := h1 0 (by omega)
  rw [insGo, if_neg (by simpa using h0)]
  rw [insGo_at (i := i) (by simpa using h) (fun t ht => by simpa using h1 (t + 1) (by omega)) (fun hl => by simpa using h2 (by simp; omega))]
  rfl
theorem BsG.ins {m : List Ent} {x : Ent} {i : Nat} (h : BsG m x i i) (hm : OkG m) (hx : Ve x) (hn : x ∉ m) : m.take i ++ [x] ++ m.drop i = insGo cmpE x m := by
 refine (insGo_at h.len (fun t ht => ?_) (fun hl => ?_)).symm
 ·have h1 := h.low t ht
  have hl := h.len
  have h2 := cmpE_anti (hm.ve _ (gm (z := ez) (show t < m.length by omega))) hx
  omega
 ·have h1 := h.up i (Nat.le_refl _) hl
  have h2 := cmpE_anti (hm.ve _ (gm (z := ez) hl)) hx
  have h3 : cmpE (m.getD i ez) x ≠ 0 := fun e => hn (by rw [← (cmpE_eq (hm.ve _ (gm (z := ez) hl)) hx).1 e]; exact gm hl)
  omega
theorem insGo_lenG {α : Type} {f : α → α → Int} {p : α} : ∀ (m : List α), (insGo f p m).length = m.length + 1
 | [] => rfl
 | x :: r => by
  rw [insGo]; split
  ·rfl
  ·simp [insGo_lenG r]
theorem insGo_pwE {x : Ent} {m : List Ent} (hm : OkG m) (hx : Ve x) (hn : x ∉ m) : (insGo cmpE x m).Pairwise (fun x y => cmpE x y < 0) := by
 have ha := hm.asc
 have hv := hm.ve
 clear hm
 induction m with
 | nil => simp [insGo]
 | cons y r ih =>
  have hy := hv y (by simp)
  rw [insGo]
  rw [List.pairwise_cons] at ha
  split
  ·rename_i hlt
   rw [List.pairwise_cons, List.pairwise_cons]
   refine ⟨fun z hz => ?_, ha⟩
   rcases List.mem_cons.1 hz with rfl | hz
   ·exact hlt
   ·exact cmpE_tr hx hy (hv z (by simp [hz])) hlt (ha.1 z hz)
  ·rename_i hge
   rw [List.pairwise_cons]
   refine ⟨fun z hz => ?_, ih (fun h => hn (by simp [h])) ha.2 (fun e he => hv e (by simp [he]))⟩
   rcases insGo_mem.1 hz with rfl | hz
   ·have h1 := cmpE_anti hy hx
    have h2 : cmpE y z ≠ 0 := fun e => hn (by rw [← (cmpE_eq hy hx).1 e]; simp)
    omega
   ·exact ha.1 z hz
def grantR (m : List Ent) (e : Ent) : List Ent × Int := if e.r < 1 ∨ 63 < e.r then (m, 1) else if checkS e.p ≠ 0 then (m, checkS e.p) else if e ∈ m then (m, 5) else if 1000 ≤ m.length then (m, 14) else (insGo cmpE e m, 0)
def dropR (m : List Ent) (e : Ent) : List Ent × Int := if e.r < 1 ∨ 63 < e.r then (m, 1) else if e ∉ m then (m, 4) else (m.filter (· != e), 0)
theorem OkG.grant {m : List Ent} (h : OkG m) {e : Ent} (he : e.p.ok) : OkG (grantR m e).1 := by
 unfold grantR
 split
 ·exact h
 split
 ·exact h
 split
 ·exact h
 split
 ·exact h
 ·rename_i h1 h2 h3 h4
  have hv : Ve e := ⟨by omega, by omega, he, by omega⟩
  exact ⟨insGo_pwE h hv h3, fun x hx => (insGo_mem.1 hx).elim (fun q => q ▸ hv) (h.ve x), by rw [insGo_lenG]; omega⟩
theorem OkG.drop {m : List Ent} (h : OkG m) (e : Ent) : OkG (dropR m e).1 := by
 unfold dropR
 split
 ·exact h
 split
 ·exact h
 ·exact ⟨h.asc.filter _, fun x hx => h.ve x (List.mem_filter.1 hx).1, Nat.le_trans (List.length_filter_le _ _) h.len⟩
section
variable {m : List Ent} {k : Nat} {s : W64} {r : Int}
end
section
variable {imp : Int → Int → Bool} {m l : List Ent} {k : Nat}
end
end Go.Lx
/- Books of grants without what is needless. Nothing of a program stands here. -/
namespace Go.Lx
open Go
structure ImpOk (imp : Int → Int → Bool) : Prop where
 tr : ∀ a b c : Int, imp a b = true → imp b c = true → imp a c = true
 rk : ∃ (ρ : Int → Nat) (N : Nat), (∀ a, ρ a ≤ N) ∧ ∀ a b, imp a b = true → a = b ∨ ρ a < ρ b
end Go.Lx
/- Books of grants in memory; the law's operations. Nothing of a program stands here. -/
namespace Go.Lx
open Go Go.RowKit
def GbIs (w : World) (v : Value) (m : List Ent) : Prop := ∃ p a c, v = .pointer (some ⟨p, 0, none⟩) ∧ At w p 0 [.slice a m.length c] ∧ Sl encE 4 (Lt w.heap.size) w a c m
theorem GbIs.ext {γ : Prop} {w w' : World} {v : Value} {m : List Ent} (h : GbIs w v m) (x : Ext γ w w') : GbIs w' v m :=
 let ⟨p, a, c, h1, h2, h3⟩ := h
 ⟨p, a, c, h1, h2.keep x id, (h3.ext x).top⟩
def GbF (F : Nat → Prop) (w : World) (v : Value) (m : List Ent) : Prop := ∃ p a c, v = .pointer (some ⟨p, 0, none⟩) ∧ F p ∧ At w p 0 [.slice a m.length c] ∧ Sl encE 4 F w a c m
section
variable {F F' D : Nat → Prop} {γ : Prop} {w w' : World} {v : Value} {m : List Ent}
theorem GbF.keep (h : GbF F w v m) (x : Bel γ D w w') (hd : ∀ b, b < w.heap.size → F b → ¬ D b) : GbF F w' v m :=
 let ⟨p, a, c, h1, h2, h3, h4⟩ := h
 ⟨p, a, c, h1, h2, h3.keep x (hd p h3.lt h2), h4.keep x hd⟩
theorem GbF.ext (h : GbF F w v m) (x : Ext γ w w') : GbF F w' v m := h.keep x fun _ _ _ => id
theorem GbF.mono (h : GbF F w v m) (hd : ∀ b, b < w.heap.size → F b → F' b) : GbF F' w v m :=
 let ⟨p, a, c, h1, h2, h3, h4⟩ := h
 ⟨p, a, c, h1, hd p h3.lt h2, h3, h4.mono hd⟩
theorem GbF.is (h : GbF F w v m) : GbIs w v m :=
 let ⟨p, a, c, h1, _, h3, h4⟩ := h
 ⟨p, a, c, h1, h3, h4.top⟩
theorem GbIs.f (h : GbIs w v m) : GbF (Lt w.heap.size) w v m :=
 let ⟨p, a, c, h1, h3, h4⟩ := h
 ⟨p, a, c, h1, h3.lt, h3, h4⟩
end
def GbP (w : World) (p : Value) (e : Int) (m : List Ent) : Prop := (e = 0 → GbIs w p m) ∧ (e ≠ 0 → p = .pointer none)
theorem GbP.ext {γ : Prop} {w w' : World} {p : Value} {e : Int} {m : List Ent} (h : GbP w p e m) (x : Ext γ w w') : GbP w' p e m := ⟨fun he => (h.1 he).ext x, h.2⟩
def GbO (w : World) (p : Value) (m : List Ent) : Prop := GbIs w p m ∨ p = .pointer none ∧ m = []
theorem GbO.ext {γ : Prop} {w w' : World} {p : Value} {m : List Ent} (h : GbO w p m) (x : Ext γ w w') : GbO w' p m := h.imp (·.ext x) id
theorem gb_nil {w : World} {p : Nat} {T : TypeId} (hb : Box w p T [.slice none 0 0]) : GbIs w (.pointer (some ⟨p, 0, none⟩)) [] := ⟨p, none, 0, rfl, hb.at, Sl.none⟩
structure GOp where
 wd : Bool
 rl : UInt8
 p : RawV
def roleL : List Int := [0, 63, 64, -1, 65, 62]
def roleN (n : UInt8) : Int := if 250 ≤ n.toNat then roleL.getD (n.toNat - 250) 0 else 1 + ((n.toNat % 6 : Nat) : Int)
def GOp.ent (o : GOp) : Ent := ⟨roleN o.rl, o.p.perm⟩
theorem GOp.okp (o : GOp) : o.ent.p.ok := o.p.ok
def stepGr (m : List Ent) (o : GOp) : List Ent × Int := if o.wd then dropR m o.ent else grantR m o.ent
theorem OkG.step {m : List Ent} (h : OkG m) (o : GOp) : OkG (stepGr m o).1 := by
 unfold stepGr
 split
 ·exact h.drop _
 ·exact h.grant o.okp
