/- Links: what a list of pairs reaches; the closure of a set of roles, of a hierarchy and of the reference. Nothing of a program stands here. -/
import Derived.Test.YtncmjgmlnnenhaaDoorRel
import Derived.Test.YtncmjgmlnnenhaaDoorOd
namespace Go.Lx
open Go
set_option linter.unusedSimpArgs false
set_option linter.unusedVariables false
set_option linter.unnecessarySimpa false
theorem rch_congr {ps qs : List Pr} (h : ∀ x, x ∈ ps → x ∈ qs) {a b : Fin 64} (r : Rch ps a b) : Rch qs a b := by
  induction r with
  | one h1 => exact .one (h _ h1)
  | snoc _ h2 ih => exact .snoc ih (h _ h2)
theorem BelS.congr {ps qs : List Pr} (h : ∀ x, x ∈ ps ↔ x ∈ qs) {f : Nat → W64} (hb : BelS ps f) : BelS qs f := fun a c =>
  (hb a c).trans ⟨rch_congr fun x => (h x).1, rch_congr fun x => (h x).2⟩
theorem w64_ext {x y : W64} (h : ∀ c : Fin 64, x.getLsbD c.val = true ↔ y.getLsbD c.val = true) : x = y :=
  BitVec.eq_of_getLsbD_eq fun i hi => Bool.eq_iff_iff.2 (h ⟨i, hi⟩)
theorem setW_ex (p : Fin 64 → Prop) : ∃ x : W64, ∀ c : Fin 64, x.getLsbD c.val = true ↔ p c := by
  classical
  refine ⟨ofW (((List.finRange 64).filter fun c => decide (p c)).map iv), fun c => ?_⟩
  rw [ofW_get _ (by intro q hq; obtain ⟨a, _, rfl⟩ := List.mem_map.1 hq; exact iv_ge a)]
  rw [List.any_eq_true]
  constructor
  · rintro ⟨q, hq, e⟩
    obtain ⟨a, ha, rfl⟩ := List.mem_map.1 hq
    have : a = c := iv_inj.1 (by unfold iv at e ⊢; simpa using e)
    subst this
    simpa using (List.mem_filter.1 ha).2
  · intro h
    exact ⟨iv c, List.mem_map.2 ⟨c, List.mem_filter.2 ⟨List.mem_finRange c, by simpa using h⟩, rfl⟩, by simp [iv]⟩
def JunIs (L : List Pr) (r : Fin 64) (J : W64) : Prop := ∀ c : Fin 64, J.getLsbD c.val = true ↔ (c = r ∨ Rch L r c)
theorem JunIs.ex (L : List Pr) (r : Fin 64) : ∃ J, JunIs L r J := setW_ex _
theorem JunIs.exF (L : List Pr) : ∃ J : Fin 64 → W64, ∀ r, JunIs L r (J r) := ⟨fun r => (JunIs.ex L r).choose, fun r => (JunIs.ex L r).choose_spec⟩
theorem JunIs.uniq {L : List Pr} {r : Fin 64} {J K : W64} (h : JunIs L r J) (k : JunIs L r K) : J = K := w64_ext fun c => (h c).trans (k c).symm
def nxt (L : List Pr) (s : W64) : W64 := L.foldl (fun n x => if s.getLsbD x.1.val = true then n ||| oneW x.2.val else n) s
theorem nxt_succ {L : List Pr} {k : Nat} (h : k < L.length) (s : W64) : nxt (L.take (k + 1)) s = if s.getLsbD (L.getD k pz0).1.val = true then nxt (L.take k) s ||| oneW (L.getD k pz0).2.val else nxt (L.take k) s := by
  rw [takeS h, nxt, List.foldl_append]; rfl
theorem nxt_aux (s : W64) (c : Fin 64) : ∀ (L : List Pr) (n : W64), (L.foldl (fun n x => if s.getLsbD x.1.val = true then n ||| oneW x.2.val else n) n).getLsbD c.val = true ↔ n.getLsbD c.val = true ∨ ∃ x ∈ L, s.getLsbD x.1.val = true ∧ x.2 = c
  | [], n => by simp
  | y :: L, n => by
    rw [List.foldl_cons, nxt_aux s c L]
    have e : (oneW y.2.val).getLsbD c.val = true ↔ y.2 = c := by
      rw [oneW_get _ _ y.2.isLt, decide_eq_true_eq]
      exact ⟨fun h => Fin.ext h.symm, fun h => by rw [h]⟩
    by_cases h : s.getLsbD y.1.val = true
    · rw [if_pos h, BitVec.getLsbD_or, Bool.or_eq_true, e]
      constructor
      · rintro ((h1 | h1) | ⟨x, h1, h2⟩)
        · exact .inl h1
        · exact .inr ⟨y, by simp, h, h1⟩
        · exact .inr ⟨x, by simp [h1], h2⟩
      · rintro (h1 | ⟨x, h1, h2, h3⟩)
        · exact .inl (.inl h1)
        · rcases List.mem_cons.1 h1 with rfl | h1
          · exact .inl (.inr h3)
          · exact .inr ⟨x, h1, h2, h3⟩
    · rw [if_neg h]
      constructor
      · rintro (h1 | ⟨x, h1, h2⟩)
        · exact .inl h1
        · exact .inr ⟨x, by simp [h1], h2⟩
      · rintro (h1 | ⟨x, h1, h2, h3⟩)
        · exact .inl h1
        · rcases List.mem_cons.1 h1 with rfl | h1
          · exact absurd h2 h
          · exact .inr ⟨x, h1, h2, h3⟩
theorem nxt_get (L : List Pr) (s : W64) (c : Fin 64) : (nxt L s).getLsbD c.val = true ↔ s.getLsbD c.val = true ∨ ∃ x ∈ L, s.getLsbD x.1.val = true ∧ x.2 = c := nxt_aux s c L s
theorem nxt_lt {L : List Pr} {s : W64} (h : nxt L s ≠ s) : s.toNat < (nxt L s).toNat := by
  have e : s ||| nxt L s = nxt L s := w64_ext fun c => by
    rw [BitVec.getLsbD_or, Bool.or_eq_true, nxt_get]
    constructor
    · rintro (h | h)
      · exact .inl h
      · exact h
    · exact .inr
  have h1 : (nxt L s).toNat = s.toNat ||| (nxt L s).toNat := by
    conv => lhs; rw [← e]
    rfl
  have h2 : s.toNat ≤ s.toNat ||| (nxt L s).toNat := Nat.left_le_or
  have h3 : s.toNat ≠ (nxt L s).toNat := fun e2 => h (BitVec.eq_of_toNat_eq e2.symm)
  omega
structure JIn (L : List Pr) (r : Fin 64) (s : W64) : Prop where
  has : s.getLsbD r.val = true
  sub : ∀ c : Fin 64, s.getLsbD c.val = true → c = r ∨ Rch L r c
theorem JIn.start (L : List Pr) (r : Fin 64) : JIn L r (oneW r.val) := by
  have e : ∀ c : Fin 64, (oneW r.val).getLsbD c.val = true ↔ c = r := fun c => by
    rw [oneW_get _ _ r.isLt, decide_eq_true_eq]
    exact ⟨fun h => Fin.ext h, fun h => by rw [h]⟩
  exact ⟨(e r).2 rfl, fun c h => .inl ((e c).1 h)⟩
theorem JIn.next {L : List Pr} {r : Fin 64} {s : W64} (h : JIn L r s) : JIn L r (nxt L s) := by
  refine ⟨(nxt_get _ _ _).2 (.inl h.has), fun c hc => ?_⟩
  rcases (nxt_get _ _ _).1 hc with hc | ⟨x, h1, h2, rfl⟩
  · exact h.sub c hc
  · rcases h.sub x.1 h2 with e | h3
    · exact .inr (.one (by rw [← e]; exact h1))
    · exact .inr (.snoc h3 h1)
theorem JIn.done {L : List Pr} {r : Fin 64} {s : W64} (h : JIn L r s) (e : nxt L s = s) : JunIs L r s := fun c => by
  refine ⟨h.sub c, ?_⟩
  rintro (rfl | hr)
  · exact h.has
  · induction hr with
    | one h1 => rw [← e]; exact (nxt_get _ _ _).2 (.inr ⟨_, h1, h.has, rfl⟩)
    | snoc _ h2 ih => rw [← e]; exact (nxt_get _ _ _).2 (.inr ⟨_, h2, ih, rfl⟩)
/-- The closure, taken up to the roles below k. -/
def ClosTo (L : List Pr) (s : W64) (k : Nat) (C : W64) : Prop := ∀ c : Fin 64, C.getLsbD c.val = true ↔ ∃ r : Fin 64, 1 ≤ r.val ∧ r.val < k ∧ s.getLsbD r.val = true ∧ (c = r ∨ Rch L r c)
theorem ClosTo.uniq {L : List Pr} {s : W64} {k : Nat} {C D : W64} (h : ClosTo L s k C) (h' : ClosTo L s k D) : C = D := w64_ext fun c => (h c).trans (h' c).symm
theorem ClosTo.start (L : List Pr) (s : W64) : ClosTo L s 1 0 := fun c => by
  constructor
  · intro h; simp at h
  · rintro ⟨r, h1, h2, _⟩; omega
theorem ClosTo.no {L : List Pr} {s : W64} {k : Nat} {C : W64} (h : ClosTo L s k C) (hk : s.getLsbD k = false) : ClosTo L s (k + 1) C := fun c => by
  rw [h c]
  constructor
  · rintro ⟨r, h1, h2, h3⟩; exact ⟨r, h1, by omega, h3⟩
  · rintro ⟨r, h1, h2, h3, h4⟩
    have : r.val ≠ k := fun e => by rw [e, hk] at h3; cases h3
    exact ⟨r, h1, by omega, h3, h4⟩
theorem ClosTo.yes {L : List Pr} {s : W64} {k : Fin 64} {C J : W64} (h : ClosTo L s k.val C) (h1 : 1 ≤ k.val) (hk : s.getLsbD k.val = true) (hJ : JunIs L k J) : ClosTo L s (k.val + 1) (C ||| J) := fun c => by
  rw [BitVec.getLsbD_or, Bool.or_eq_true, h c, hJ c]
  constructor
  · rintro (⟨r, h1, h2, h3⟩ | h2)
    · exact ⟨r, h1, by omega, h3⟩
    · exact ⟨k, h1, by omega, hk, h2⟩
  · rintro ⟨r, h1, h2, h3, h4⟩
    rcases Nat.lt_or_ge r.val k.val with h5 | h5
    · exact .inl ⟨r, h1, h5, h3, h4⟩
    · have : r = k := Fin.ext (by omega)
      subst this
      exact .inr h4
/-- An order in memory is that of the links L. -/
structure HOk (o : OV) (L : List Pr) : Prop where
  n : o.n = 64
  ps : ∀ x, x ∈ o.pairs ↔ x ∈ L
  le : o.pairs.length ≤ L.length
  be : BelS L (xsO o.below)
theorem HOk.jun {o : OV} {L : List Pr} (h : HOk o L) {r : Fin 64} (hr : 1 ≤ r.val) : JunIs L r (junO o r.val) := fun c => by
  have h1 := r.isLt
  unfold junO belO
  rw [if_pos ⟨by omega, by omega⟩, if_pos ⟨by omega, by rw [h.n]; omega⟩, Int.toNat_natCast, BitVec.getLsbD_or, Bool.or_eq_true, oneW_get _ _ h1, decide_eq_true_eq]
  show (xsO o.below r.val).getLsbD c.val = true ∨ _ ↔ _
  rw [h.be r c]
  constructor
  · rintro (h2 | h2)
    · exact .inr h2
    · exact .inl (Fin.ext h2)
  · rintro (rfl | h2)
    · exact .inr rfl
    · exact .inl h2
theorem closH_get (H : Option OV) (c : Fin 64) : ∀ (l : List Int) (x : W64), (l.foldl (fun x r => x ||| junH H r) x).getLsbD c.val = true ↔ x.getLsbD c.val = true ∨ ∃ r ∈ l, (junH H r).getLsbD c.val = true
  | [], x => by simp
  | y :: l, x => by
    rw [List.foldl_cons, closH_get H c l, BitVec.getLsbD_or, Bool.or_eq_true]
    constructor
    · rintro ((h | h) | ⟨r, h1, h2⟩)
      · exact .inl h
      · exact .inr ⟨y, by simp, h⟩
      · exact .inr ⟨r, by simp [h1], h2⟩
    · rintro (h | ⟨r, h1, h2⟩)
      · exact .inl (.inl h)
      · rcases List.mem_cons.1 h1 with rfl | h1
        · exact .inl (.inr h2)
        · exact .inr ⟨r, h1, h2⟩
/-- The closure that a hierarchy tells of a set. -/
def closW (o : OV) (s : W64) : W64 := closH (some o) (memW s 64)
theorem HOk.clos {o : OV} {L : List Pr} (h : HOk o L) (s : W64) : ClosTo L s 64 (closW o s) := fun c => by
  unfold closW closH
  rw [closH_get]
  constructor
  · rintro (h1 | ⟨r, h1, h2⟩)
    · simp at h1
    · obtain ⟨h3, h4⟩ := memW_ok s r h1
      obtain ⟨k, rfl⟩ : ∃ k : Fin 64, r = (k.val : Int) := ⟨⟨r.toNat, by omega⟩, by simp; omega⟩
      have h5 : 1 ≤ k.val := by
        rcases Nat.eq_zero_or_pos k.val with e | e
        · exfalso
          have : junH (some o) (k.val : Int) = 0 := by
            show junO o (k.val : Int) = 0
            unfold junO; rw [if_neg (by omega)]
          rw [this] at h2; simp at h2
        · exact e
      exact ⟨k, h5, k.isLt, (mem_val).1 h1, (h.jun h5 c).1 h2⟩
  · rintro ⟨r, h1, _, h3, h4⟩
    exact .inr ⟨(r.val : Int), mem_val.2 h3, (h.jun h1 c).2 h4⟩
theorem closN (s : W64) : closH none (memW s 64) = 0 := w64_ext fun c => by
  unfold closH
  rw [closH_get]
  constructor
  · rintro (h | ⟨r, _, h⟩)
    · exact h
    · exact h
  · exact .inl
section
variable {o : OV} {L : List Pr} (h : HOk o L)
include h
theorem HOk.mono {s t : W64} (hs : ∀ i, s.getLsbD i = true → t.getLsbD i = true) : subW (closW o s) (closW o t) = true := by
  refine sub_iff.2 fun i hi => ?_
  rcases Nat.lt_or_ge i 64 with hl | hl
  · obtain ⟨r, h1, h2, h3, h4⟩ := (h.clos s ⟨i, hl⟩).1 hi
    exact (h.clos t ⟨i, hl⟩).2 ⟨r, h1, h2, hs _ h3, h4⟩
  · rw [BitVec.getLsbD_of_ge _ _ hl] at hi; cases hi
theorem HOk.idem (hp : ∀ x ∈ L, 1 ≤ x.2.val) (s : W64) : closW o (closW o s) = closW o s := by
  have hpos : ∀ a c : Fin 64, Rch L a c → 1 ≤ c.val := fun a c hr => by
    cases hr with
    | one h1 => exact hp _ h1
    | snoc _ h1 => exact hp _ h1
  refine w64_ext fun c => ?_
  rw [h.clos (closW o s) c]
  constructor
  · rintro ⟨r, h1, h2, h3, h4⟩
    obtain ⟨q, g1, g2, g3, g4⟩ := (h.clos s r).1 h3
    refine (h.clos s c).2 ⟨q, g1, g2, g3, ?_⟩
    rcases h4 with rfl | h4
    · exact g4
    · rcases g4 with rfl | g4
      · exact .inr h4
      · exact .inr (rch_trans g4 h4)
  · intro hc
    obtain ⟨q, g1, g2, g3, g4⟩ := (h.clos s c).1 hc
    refine ⟨c, ?_, c.isLt, hc, .inl rfl⟩
    rcases g4 with rfl | g4
    · exact g1
    · exact hpos _ _ g4
end
/-- Links without cycles, by the rank ρ, among roles. -/
structure LkOk (L : List Pr) (ρ : Fin 64 → Nat) : Prop where
  rk : ∀ x ∈ L, ρ x.1 < ρ x.2
  nd : L.Nodup
  po : ∀ x ∈ L, 1 ≤ x.1.val ∧ 1 ≤ x.2.val
theorem LkOk.nil (ρ : Fin 64 → Nat) : LkOk [] ρ := ⟨by simp, List.nodup_nil, by simp⟩
def InsP (L : List Pr) (x : Pr) (M : List Pr) : Prop := ∃ i, i ≤ L.length ∧ M = L.take i ++ x :: L.drop i
theorem InsP.mem {L M : List Pr} {x : Pr} (h : InsP L x M) (y : Pr) : y ∈ M ↔ y = x ∨ y ∈ L := by
  obtain ⟨i, _, rfl⟩ := h
  have e : y ∈ L ↔ y ∈ L.take i ∨ y ∈ L.drop i := by rw [← List.mem_append, List.take_append_drop]
  rw [e, List.mem_append, List.mem_cons]
  constructor
  · rintro (h | h | h)
    · exact .inr (.inl h)
    · exact .inl h
    · exact .inr (.inr h)
  · rintro (h | h | h)
    · exact .inr (.inl h)
    · exact .inl h
    · exact .inr (.inr h)
theorem InsP.len {L M : List Pr} {x : Pr} (h : InsP L x M) : M.length = L.length + 1 := by
  obtain ⟨i, hi, rfl⟩ := h
  simp; omega
theorem LkOk.ins {L M : List Pr} {ρ : Fin 64 → Nat} {x : Pr} (h : LkOk L ρ) (hi : InsP L x M) (hn : x ∉ L) (hr : ρ x.1 < ρ x.2) (hp : 1 ≤ x.1.val ∧ 1 ≤ x.2.val) : LkOk M ρ := by
  refine ⟨fun y hy => ?_, ?_, fun y hy => ?_⟩
  · rcases (hi.mem y).1 hy with rfl | hy
    · exact hr
    · exact h.rk y hy
  · obtain ⟨i, _, rfl⟩ := hi
    have e := h.nd
    rw [← List.take_append_drop i L, List.nodup_append] at e
    obtain ⟨e1, e2, e3⟩ := e
    rw [List.nodup_append, List.nodup_cons]
    refine ⟨e1, ⟨fun hx => hn (List.mem_of_mem_drop hx), e2⟩, fun a ha b hb => ?_⟩
    rcases List.mem_cons.1 hb with rfl | hb
    · rintro rfl; exact hn (List.mem_of_mem_take ha)
    · exact e3 a ha b hb
  · rcases (hi.mem y).1 hy with rfl | hy
    · exact hp
    · exact h.po y hy
theorem LkOk.acyc {L : List Pr} {ρ : Fin 64 → Nat} (h : LkOk L ρ) {a b : Fin 64} (hr : ρ a < ρ b) {J : W64} (hJ : JunIs L b J) : J.getLsbD a.val = false := by
  cases hb : J.getLsbD a.val with
  | false => rfl
  | true =>
    rcases (hJ a).1 hb with rfl | h1
    · omega
    · have := rch_rank h.rk h1; omega
/-- The i-th of the six roles in the order that a and b choose. -/
def ordN (a b i : Nat) : Nat := 1 + (i * (1 + 4 * a) + b) % 6
theorem ordN_lt (a b i : Nat) : 1 ≤ ordN a b i ∧ ordN a b i ≤ 6 := by unfold ordN; omega
def ordF (a b i : Nat) : Fin 64 := ⟨ordN a b i, by have := ordN_lt a b i; omega⟩
def rkN (a b c : Nat) : Nat := ((List.range 6).findIdx? fun i => ordN a b i == c).getD 0
theorem rk_ord : ∀ a, a < 2 → ∀ b, b < 6 → ∀ i, i < 6 → rkN a b (ordN a b i) = i := by decide
theorem rch_single {a b x y : Fin 64} (h : a ≠ b) : Rch [(a, b)] x y ↔ x = a ∧ y = b := by
  constructor
  · intro hr
    cases hr with
    | one h1 =>
      simp at h1; exact h1
    | snoc h1 h2 =>
      simp at h2
      obtain ⟨rfl, rfl⟩ := h2
      exfalso
      cases h1 with
      | one h3 => simp at h3; exact h h3.2
      | snoc _ h3 => simp at h3; exact h h3.2
  · rintro ⟨rfl, rfl⟩; exact .one (by simp)
end Go.Lx
