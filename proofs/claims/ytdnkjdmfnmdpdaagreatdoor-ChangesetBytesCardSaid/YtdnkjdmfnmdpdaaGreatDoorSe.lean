/- Several texts in one file. -/
import Derived.Test.YtdnkjdmfnmdpdaaGreatDoorTz
import Derived.Test.YtdnkjdmfnmdpdaaGreatDoorOwn
import Derived.Test.YtdnkjdmfnmdpdaaGreatDoorPure11g
import Derived.Lib.BitFns
import Derived.Test.YtdnkjdmfnmdpdaaGreatDoorOwn3
import Derived.Laws.IdiomStrings
set_option linter.unusedSimpArgs false
set_option linter.unusedVariables false
set_option linter.unnecessarySimpa false
/- A book of sessions in memory, the program's and the reference's. Nothing of a program stands here. -/
namespace Go.Lx
open Go Go.RowKit
structure SE where
 n : Int
 u : Int
 a : Option Addr
 c : Nat
 x : W64
def encSe (s : SE) : List Value := [.int .i64 s.n, .int .i64 s.u, .slice s.a (wl s.x).length s.c]
def SE.rs (s : SE) : RS := ⟨s.n, s.u, s.x⟩
def encRs (s : RS) : List Value := [.int .i64 s.n, .int .i64 s.u, u64 s.x]
theorem J6 : EncOk encRs 3 := ⟨by decide, fun _ => rfl, fun x u hu => by
 simp [encRs] at hu
 rcases hu with rfl | rfl | rfl <;> rfl⟩
def SesAt (F : Nat → Prop) (w : World) (l : List SE) : Prop := ∀ s ∈ l, Sl encU 1 F w s.a s.c (wl s.x)
structure BV where
 ap : Option Addr
 cp : Nat
 l : List SE
structure BkAt (F : Nat → Prop) (w : World) (p : Nat) (b : BV) : Prop where
 blk : F p
 at' : At w p 0 [.slice b.ap b.l.length b.cp]
 sl : Sl encSe 3 F w b.ap b.cp b.l
 ws : SesAt F w b.l
def BV.m (b : BV) : List RS := b.l.map SE.rs
section
variable {F F' D : Nat → Prop} {γ : Prop} {w w' : World} {p : Nat} {b : BV} {l : List SE}
theorem SesAt.keep (h : SesAt F w l) (x : Bel γ D w w') (hd : ∀ b, b < w.heap.size → F b → ¬ D b) : SesAt F w' l := fun s hs => (h s hs).keep x hd
theorem SesAt.mono (h : SesAt F w l) (hd : ∀ b, b < w.heap.size → F b → F' b) : SesAt F' w l := fun s hs => (h s hs).mono hd
theorem SesAt.ext (h : SesAt F w l) (x : Ext γ w w') : SesAt F w' l := fun s hs => (h s hs).ext x
theorem SesAt.nil : SesAt F w [] := fun s hs => by cases hs
theorem SesAt.cons {s : SE} (h : Sl encU 1 F w s.a s.c (wl s.x)) (k : SesAt F w l) : SesAt F w (s :: l) := fun t ht => by
 rcases List.mem_cons.1 ht with rfl | ht
 ·exact h
 ·exact k t ht
theorem SesAt.sub {r : List SE} (h : SesAt F w l) (hs : ∀ s ∈ r, s ∈ l) : SesAt F w r := fun s h1 => h s (hs s h1)
theorem SesAt.set {s : SE} {i : Nat} (h : SesAt F w l) (hs : Sl encU 1 F w s.a s.c (wl s.x)) : SesAt F w (l.set i s) := fun t ht => by
 rcases List.mem_or_eq_of_mem_set ht with ht | rfl
 ·exact h t ht
 ·exact hs
theorem BkAt.lt (h : BkAt F w p b) : p < w.heap.size := h.at'.lt
theorem BkAt.keep (h : BkAt F w p b) (x : Bel γ D w w') (hd : ∀ b, b < w.heap.size → F b → ¬ D b) : BkAt F w' p b :=
 ⟨h.blk, h.at'.keep x (hd p h.lt h.blk), h.sl.keep x hd, h.ws.keep x hd⟩
theorem BkAt.ext (h : BkAt F w p b) (x : Ext γ w w') : BkAt F w' p b := h.keep x fun _ _ _ => id
theorem BkAt.mono (h : BkAt F w p b) (hd : ∀ b, b < w.heap.size → F b → F' b) : BkAt F' w p b :=
 ⟨hd p h.lt h.blk, h.at', h.sl.mono hd, h.ws.mono hd⟩
theorem BkAt.top (h : BkAt F w p b) : BkAt (Lt w.heap.size) w p b := h.mono fun _ hb _ => hb
end
def BkIs (w : World) (v : Value) (m : List RS) : Prop := ∃ p b, v = .pointer (some ⟨p, 0, none⟩) ∧ BkAt (Lt w.heap.size) w p b ∧ b.m = m
def BkP (w : World) (p : Value) (e : Int) (m : List RS) : Prop := (e = 0 → BkIs w p m) ∧ (e ≠ 0 → p = .pointer none)
theorem BkIs.ext {γ : Prop} {w w' : World} {v : Value} {m : List RS} (h : BkIs w v m) (x : Ext γ w w') : BkIs w' v m :=
 let ⟨p, b, h1, h2, h3⟩ := h
 ⟨p, b, h1, (h2.ext x).top, h3⟩
theorem BkP.ext {γ : Prop} {w w' : World} {p : Value} {e : Int} {m : List RS} (h : BkP w p e m) (x : Ext γ w w') : BkP w' p e m := ⟨fun he => (h.1 he).ext x, h.2⟩
theorem BkAt.is {F : Nat → Prop} {w : World} {p : Nat} {b : BV} (h : BkAt F w p b) : BkIs w (.pointer (some ⟨p, 0, none⟩)) b.m := ⟨p, b, rfl, h.top, rfl⟩
theorem SesAt.top {F : Nat → Prop} {w : World} {l : List SE} (h : SesAt F w l) : SesAt (Lt w.heap.size) w l := h.mono fun _ hb _ => hb
end Go.Lx
/- Links: what a list of pairs reaches; the closure of a set of roles, of a hierarchy and of the reference. Nothing of a program stands here. -/
namespace Go.Lx
open Go
theorem rch_congr {ps qs : List Pr} (h : ∀ x, x ∈ ps → x ∈ qs) {a b : Fin 64} (r : Rch ps a b) : Rch qs a b := by
 induction r with
 | one h1 => exact .one (h _ h1)
 | snoc _ h2 ih => exact .snoc ih (h _ h2)
theorem BelS.congr {ps qs : List Pr} (h : ∀ x, x ∈ ps ↔ x ∈ qs) {f : Nat → W64} (hb : BelS ps f) : BelS qs f := fun a c =>
 (hb a c).trans ⟨rch_congr fun x => (h x).1, rch_congr fun x => (h x).2⟩
theorem AboS.congr {ps qs : List Pr} (h : ∀ x, x ∈ ps ↔ x ∈ qs) {f : Nat → W64} (hb : AboS ps f) : AboS qs f := fun b c =>
 (hb b c).trans ⟨rch_congr fun x => (h x).1, rch_congr fun x => (h x).2⟩
theorem w64_ext {x y : W64} (h : ∀ c : Fin 64, x.getLsbD c.val = true ↔ y.getLsbD c.val = true) : x = y :=
 BitVec.eq_of_getLsbD_eq fun i hi => Bool.eq_iff_iff.2 (h ⟨i, hi⟩)
theorem setW_ex (p : Fin 64 → Prop) : ∃ x : W64, ∀ c : Fin 64, x.getLsbD c.val = true ↔ p c := by
 classical
 refine ⟨ofW (((List.finRange 64).filter fun c => decide (p c)).map iv), fun c => ?_⟩
 rw [ofW_get _ (by intro q hq; obtain ⟨a, _, rfl⟩ := List.mem_map.1 hq; exact iv_ge a)]
 rw [List.any_eq_true]
 constructor
 ·rintro ⟨q, hq, e⟩
  obtain ⟨a, ha, rfl⟩ := List.mem_map.1 hq
  have : a = c := iv_inj.1 (by unfold iv at e ⊢; simpa using e)
  subst this
  simpa using (List.mem_filter.1 ha).2
 ·intro h
  exact ⟨iv c, List.mem_map.2 ⟨c, List.mem_filter.2 ⟨List.mem_finRange c, by simpa using h⟩, rfl⟩, by simp [iv]⟩
def JunIs (L : List Pr) (r : Fin 64) (J : W64) : Prop := ∀ c : Fin 64, J.getLsbD c.val = true ↔ (c = r ∨ Rch L r c)
theorem JunIs.ex (L : List Pr) (r : Fin 64) : ∃ J, JunIs L r J := setW_ex _
theorem JunIs.uniq {L : List Pr} {r : Fin 64} {J K : W64} (h : JunIs L r J) (k : JunIs L r K) : J = K := w64_ext fun c => (h c).trans (k c).symm
def nxt (L : List Pr) (s : W64) : W64 := L.foldl (fun n x => if s.getLsbD x.1.val = true then n ||| oneW x.2.val else n) s
theorem nxt_succ {L : List Pr} {k : Nat} (h : k < L.length) (s : W64) : nxt (L.take (k + 1)) s = if s.getLsbD (L.getD k pz0).1.val = true then nxt (L.take k) s ||| oneW (L.getD k pz0).2.val else nxt (L.take k) s := by
 rw [takeS h, nxt, List.foldl_append]; rfl
theorem nxt_aux (s : W64) (c : Fin 64) : ∀ (L : List Pr) (n : W64), (L.foldl (fun n x => if s.getLsbD x.1.val = true then n ||| oneW x.2.val else n) n).getLsbD c.val = true ↔ n.getLsbD c.val = true ∨ ∃ x ∈ L, s.getLsbD x.1.val = true ∧ x.2 = c
 | [], n => by simp
 | y :: L, n => by
  rw [List.foldl_cons, nxt_aux s c L]
  have e : (oneW y.2.val).getLsbD c.val = true ↔ y.2 = c := by
   rw [oneW_get _ _ y.2.isLt, decide_eq_true_eq]
   exact ⟨fun h => Fin.ext h.symm, fun h => by rw [h]⟩
  by_cases h : s.getLsbD y.1.val = true
  ·rw [if_pos h, BitVec.getLsbD_or, Bool.or_eq_true, e]
   constructor
   ·rintro ((h1 | h1) | ⟨x, h1, h2⟩)
    ·exact .inl h1
    ·exact .inr ⟨y, by simp, h, h1⟩
    ·exact .inr ⟨x, by simp [h1], h2⟩
   ·rintro (h1 | ⟨x, h1, h2, h3⟩)
    ·exact .inl (.inl h1)
    ·rcases List.mem_cons.1 h1 with rfl | h1
     ·exact .inl (.inr h3)
     ·exact .inr ⟨x, h1, h2, h3⟩
  ·rw [if_neg h]
   constructor
   ·rintro (h1 | ⟨x, h1, h2⟩)
    ·exact .inl h1
    ·exact .inr ⟨x, by simp [h1], h2⟩
   ·rintro (h1 | ⟨x, h1, h2, h3⟩)
    ·exact .inl h1
    ·rcases List.mem_cons.1 h1 with rfl | h1
     ·exact absurd h2 h
     ·exact .inr ⟨x, h1, h2, h3⟩
theorem nxt_get (L : List Pr) (s : W64) (c : Fin 64) : (nxt L s).getLsbD c.val = true ↔ s.getLsbD c.val = true ∨ ∃ x ∈ L, s.getLsbD x.1.val = true ∧ x.2 = c := nxt_aux s c L s
theorem nxt_lt {L : List Pr} {s : W64} (h : nxt L s ≠ s) : s.toNat < (nxt L s).toNat := by
 have e : s ||| nxt L s = nxt L s := w64_ext fun c => by
  rw [BitVec.getLsbD_or, Bool.or_eq_true, nxt_get]
  constructor
  ·rintro (h | h)
   ·exact .inl h
   ·exact h
  ·exact .inr
 have h1 : (nxt L s).toNat = s.toNat ||| (nxt L s).toNat := by
  conv => lhs; rw [← e]
  rfl
 have h2 : s.toNat ≤ s.toNat ||| (nxt L s).toNat := Nat.left_le_or
 have h3 : s.toNat ≠ (nxt L s).toNat := fun e2 => h (BitVec.eq_of_toNat_eq e2.symm)
 omega
structure JIn (L : List Pr) (r : Fin 64) (s : W64) : Prop where
 has : s.getLsbD r.val = true
 sub : ∀ c : Fin 64, s.getLsbD c.val = true → c = r ∨ Rch L r c
theorem JIn.start (L : List Pr) (r : Fin 64) : JIn L r (oneW r.val) := by
 have e : ∀ c : Fin 64, (oneW r.val).getLsbD c.val = true ↔ c = r := fun c => by
  rw [oneW_get _ _ r.isLt, decide_eq_true_eq]
  exact ⟨fun h => Fin.ext h, fun h => by rw [h]⟩
 exact ⟨(e r).2 rfl, fun c h => .inl ((e c).1 h)⟩
theorem JIn.next {L : List Pr} {r : Fin 64} {s : W64} (h : JIn L r s) : JIn L r (nxt L s) := by
 refine ⟨(nxt_get _ _ _).2 (.inl h.has), fun c hc => ?_⟩
 rcases (nxt_get _ _ _).1 hc with hc | ⟨x, h1, h2, rfl⟩
 ·exact h.sub c hc
 ·rcases h.sub x.1 h2 with e | h3
  ·exact .inr (.one (by rw [← e]; exact h1))
  ·exact .inr (.snoc h3 h1)
theorem JIn.done {L : List Pr} {r : Fin 64} {s : W64} (h : JIn L r s) (e : nxt L s = s) : JunIs L r s := fun c => by
 refine ⟨h.sub c, ?_⟩
 rintro (rfl | hr)
 ·exact h.has
 ·induction hr with
  | one h1 => rw [← e]; exact (nxt_get _ _ _).2 (.inr ⟨_, h1, h.has, rfl⟩)
  | snoc _ h2 ih => rw [← e]; exact (nxt_get _ _ _).2 (.inr ⟨_, h2, ih, rfl⟩)
def ClosTo (L : List Pr) (s : W64) (k : Nat) (C : W64) : Prop := ∀ c : Fin 64, C.getLsbD c.val = true ↔ ∃ r : Fin 64, 1 ≤ r.val ∧ r.val < k ∧ s.getLsbD r.val = true ∧ (c = r ∨ Rch L r c)
theorem ClosTo.uniq {L : List Pr} {s : W64} {k : Nat} {C D : W64} (h : ClosTo L s k C) (h' : ClosTo L s k D) : C = D := w64_ext fun c => (h c).trans (h' c).symm
theorem ClosTo.start (L : List Pr) (s : W64) : ClosTo L s 1 0 := fun c => by
 constructor
 ·intro h; simp at h
 ·rintro ⟨r, h1, h2, _⟩; omega
theorem ClosTo.no {L : List Pr} {s : W64} {k : Nat} {C : W64} (h : ClosTo L s k C) (hk : s.getLsbD k = false) : ClosTo L s (k + 1) C := fun c => by
 rw [h c]
 constructor
 ·rintro ⟨r, h1, h2, h3⟩; exact ⟨r, h1, by omega, h3⟩
 ·rintro ⟨r, h1, h2, h3, h4⟩
  have : r.val ≠ k := fun e => by rw [e, hk] at h3; cases h3
  exact ⟨r, h1, by omega, h3, h4⟩
structure HOk (o : OV) (L : List Pr) : Prop where
 n : o.n = 64
 ps : ∀ x, x ∈ o.pairs ↔ x ∈ L
 le : o.pairs.length ≤ L.length
 be : BelS L (xsO o.below)
 ab : AboS L (xsO o.above)
theorem HOk.jun {o : OV} {L : List Pr} (h : HOk o L) {r : Fin 64} (hr : 1 ≤ r.val) : JunIs L r (junO o r.val) := fun c => by
 have h1 := r.isLt
 unfold junO belO
 rw [if_pos ⟨by omega, by omega⟩, if_pos ⟨by omega, by rw [h.n]; omega⟩, Int.toNat_natCast, BitVec.getLsbD_or, Bool.or_eq_true, oneW_get _ _ h1, decide_eq_true_eq]
 show (xsO o.below r.val).getLsbD c.val = true ∨ _ ↔ _
 rw [h.be r c]
 constructor
 ·rintro (h2 | h2)
  ·exact .inr h2
  ·exact .inl (Fin.ext h2)
 ·rintro (rfl | h2)
  ·exact .inr rfl
  ·exact .inl h2
theorem closH_get (H : Option OV) (c : Fin 64) : ∀ (l : List Int) (x : W64), (l.foldl (fun x r => x ||| junH H r) x).getLsbD c.val = true ↔ x.getLsbD c.val = true ∨ ∃ r ∈ l, (junH H r).getLsbD c.val = true
 | [], x => by simp
 | y :: l, x => by
  rw [List.foldl_cons, closH_get H c l, BitVec.getLsbD_or, Bool.or_eq_true]
  constructor
  ·rintro ((h | h) | ⟨r, h1, h2⟩)
   ·exact .inl h
   ·exact .inr ⟨y, by simp, h⟩
   ·exact .inr ⟨r, by simp [h1], h2⟩
  ·rintro (h | ⟨r, h1, h2⟩)
   ·exact .inl (.inl h)
   ·rcases List.mem_cons.1 h1 with rfl | h1
    ·exact .inl (.inr h2)
    ·exact .inr ⟨r, h1, h2⟩
def closW (o : OV) (s : W64) : W64 := closH (some o) (memW s 64)
theorem HOk.clos {o : OV} {L : List Pr} (h : HOk o L) (s : W64) : ClosTo L s 64 (closW o s) := fun c => by
 unfold closW closH
 rw [closH_get]
 constructor
 ·rintro (h1 | ⟨r, h1, h2⟩)
  ·simp at h1
  ·obtain ⟨h3, h4⟩ := memW_ok s r h1
   obtain ⟨k, rfl⟩ : ∃ k : Fin 64, r = (k.val : Int) := ⟨⟨r.toNat, by omega⟩, by simp; omega⟩
   have h5 : 1 ≤ k.val := by
    rcases Nat.eq_zero_or_pos k.val with e | e
    ·exfalso
     have : junH (some o) (k.val : Int) = 0 := by
      show junO o (k.val : Int) = 0
      unfold junO; rw [if_neg (by omega)]
     rw [this] at h2; simp at h2
    ·exact e
   exact ⟨k, h5, k.isLt, (mem_val).1 h1, (h.jun h5 c).1 h2⟩
 ·rintro ⟨r, h1, _, h3, h4⟩
  exact .inr ⟨(r.val : Int), mem_val.2 h3, (h.jun h1 c).2 h4⟩
section
variable {o : OV} {L : List Pr} (h : HOk o L)
include h
theorem HOk.mono {s t : W64} (hs : ∀ i, s.getLsbD i = true → t.getLsbD i = true) : subW (closW o s) (closW o t) = true := by
 refine sub_iff.2 fun i hi => ?_
 rcases Nat.lt_or_ge i 64 with hl | hl
 ·obtain ⟨r, h1, h2, h3, h4⟩ := (h.clos s ⟨i, hl⟩).1 hi
  exact (h.clos t ⟨i, hl⟩).2 ⟨r, h1, h2, hs _ h3, h4⟩
 ·rw [BitVec.getLsbD_of_ge _ _ hl] at hi; cases hi
end
structure LkOk (L : List Pr) (ρ : Fin 64 → Nat) : Prop where
 rk : ∀ x ∈ L, ρ x.1 < ρ x.2
 nd : L.Nodup
 po : ∀ x ∈ L, 1 ≤ x.1.val ∧ 1 ≤ x.2.val
theorem LkOk.nil (ρ : Fin 64 → Nat) : LkOk [] ρ := ⟨by simp, List.nodup_nil, by simp⟩
def InsP (L : List Pr) (x : Pr) (M : List Pr) : Prop := ∃ i, i ≤ L.length ∧ M = L.take i ++ x :: L.drop i
theorem InsP.mem {L M : List Pr} {x : Pr} (h : InsP L x M) (y : Pr) : y ∈ M ↔ y = x ∨ y ∈ L := by
 obtain ⟨i, _, rfl⟩ := h
 have e : y ∈ L ↔ y ∈ L.take i ∨ y ∈ L.drop i := by rw [← List.mem_append, List.take_append_drop]
 rw [e, List.mem_append, List.mem_cons]
 constructor
 ·rintro (h | h | h)
  ·exact .inr (.inl h)
  ·exact .inl h
  ·exact .inr (.inr h)
 ·rintro (h | h | h)
  ·exact .inr (.inl h)
  ·exact .inl h
  ·exact .inr (.inr h)
theorem InsP.len {L M : List Pr} {x : Pr} (h : InsP L x M) : M.length = L.length + 1 := by
 obtain ⟨i, hi, rfl⟩ := h
 simp; omega
theorem LkOk.ins {L M : List Pr} {ρ : Fin 64 → Nat} {x : Pr} (h : LkOk L ρ) (hi : InsP L x M) (hn : x ∉ L) (hr : ρ x.1 < ρ x.2) (hp : 1 ≤ x.1.val ∧ 1 ≤ x.2.val) : LkOk M ρ := by
 refine ⟨fun y hy => ?_, ?_, fun y hy => ?_⟩
 ·rcases (hi.mem y).1 hy with rfl | hy
  ·exact hr
  ·exact h.rk y hy
 ·obtain ⟨i, _, rfl⟩ := hi
  have e := h.nd
  rw [← List.take_append_drop i L, List.nodup_append] at e
  obtain ⟨e1, e2, e3⟩ := e
  rw [List.nodup_append, List.nodup_cons]
  refine ⟨e1, ⟨fun hx => hn (List.mem_of_mem_drop hx), e2⟩, fun a ha b hb => ?_⟩
  rcases List.mem_cons.1 hb with rfl | hb
  ·rintro rfl; exact hn (List.mem_of_mem_take ha)
  ·exact e3 a ha b hb
 ·rcases (hi.mem y).1 hy with rfl | hy
  ·exact hp
  ·exact h.po y hy
theorem LkOk.acyc {L : List Pr} {ρ : Fin 64 → Nat} (h : LkOk L ρ) {a b : Fin 64} (hr : ρ a < ρ b) {J : W64} (hJ : JunIs L b J) : J.getLsbD a.val = false := by
 cases hb : J.getLsbD a.val with
 | false => rfl
 | true =>
  rcases (hJ a).1 hb with rfl | h1
  ·omega
  ·have := rch_rank h.rk h1; omega
end Go.Lx
/- Orders and hierarchies as results; calls that make own slices in a region that draws. Nothing of a program stands here. -/
namespace Go.Lx
open Go Go.RowKit
theorem comp_len {α : Type} [BEq α] : ∀ (l acc : List α), (l.foldl compStep acc).length ≤ acc.length + l.length
 | [], acc => by simp
 | y :: l, acc => by
  rw [List.foldl_cons]
  refine Nat.le_trans (comp_len l _) ?_
  unfold compStep
  split
  ·simp
  ·simp; omega
theorem compL_len {α : Type} [BEq α] (l : List α) : (compL l).length ≤ l.length := by
 have := comp_len l []
 simpa [compL] using this
theorem HOk.congr {o : OV} {L M : List Pr} (h : HOk o L) (hm : ∀ x, x ∈ L ↔ x ∈ M) (hl : L.length ≤ M.length) : HOk o M :=
 ⟨h.n, fun x => (h.ps x).trans (hm x), Nat.le_trans h.le hl, h.be.congr hm, h.ab.congr hm⟩
section
variable {α : Type} {enc : α → List Value} {s : Nat} {e : TypeId} {β : Prop} {P : Program} {ops : Array Oper} {o : Oper} {fr : Fr} {w : World} {c : Nat → Nat} {f : FuncId} {args : Array Value} {l : List α} {kc : Nat}
theorem OpC_own (hg : o.guard = none) (h : xop P fr w o = .ok (.enter f args) w) (hk : Ok P f args w fun v' w' => Own enc s e (Fsh w w') w' v' l ∧ Ext β w w') (hd : o.dst.isSome = true := by rfl) : OpC β kc P ops o fr w c (postOwn enc s e kc l) :=
 .inl ⟨by simp [Region.wanted, hg], .inr ⟨f, args, w, h, hd, hk.mono fun v' w' ⟨h1, x⟩ => ⟨newC c w kc, StepC.ext x fun _ hb => newC_old hb, h1.mono fun b _ hb => newC_new hb.1⟩⟩⟩
end
def KeepS (S : (Nat → Prop) → Value → World → Prop) : Prop := ∀ (F : Nat → Prop) (v : Value) (γ : Prop) (D : Nat → Prop) (w w' : World), Bel γ D w w' → (∀ b, b < w.heap.size → F b → ¬ D b) → S F v w → S F v w'
def postW (S : (Nat → Prop) → Value → World → Prop) : PostC := fun v w c => ∃ F, (∀ b, F b → b < w.heap.size ∧ c b = 0) ∧ S F v w
theorem Jl {S : (Nat → Prop) → Value → World → Prop} {kc : Nat} (hS : KeepS S) : StableC kc (postW S) := by
 intro v w c w' c' q hq hx ⟨F, hF, hr⟩
 refine ⟨F, fun b hb => ⟨Nat.lt_of_lt_of_le (hF b hb).1 hx.bel.size, (hx.col b (hF b hb).1).trans (hF b hb).2⟩, hS _ _ _ _ _ _ hx.bel (fun b _ hb hd => hd.1 ?_) hr⟩
 rw [← hd.2]; exact (hF b hb).2
theorem OpC_W {S : (Nat → Prop) → Value → World → Prop} {β : Prop} {k : Nat} {P : Program} {ops : Array Oper} {o : Oper} {fr : Fr} {w : World} {c : Nat → Nat} {f : FuncId} {args : Array Value} (hg : o.guard = none) (h : xop P fr w o = .ok (.enter f args) w) (hk : Ok P f args w fun v' w' => S (Fsh w w') v' w' ∧ Ext β w w') (hd : o.dst.isSome = true := by rfl) : OpC β k P ops o fr w c (postW S) :=
 .inl ⟨by simp [Region.wanted, hg], .inr ⟨f, args, w, h, hd, hk.mono fun _ w' ⟨a, b⟩ => ⟨newC c w 0, StepC.ext b fun _ hb => newC_old hb, Fsh w w', fun b hb => ⟨hb.2, newC_new hb.1⟩, a⟩⟩⟩
def OdRes (L : List Pr) (F : Nat → Prop) (v : Value) (w : World) : Prop := ∃ p o, v = .tuple #[.pointer (some ⟨p, 0, none⟩), .int .i64 0] ∧ OdAt F w p o ∧ HOk o L
def OdPtr (L : List Pr) (F : Nat → Prop) (v : Value) (w : World) : Prop := ∃ p o, v = .pointer (some ⟨p, 0, none⟩) ∧ OdAt F w p o ∧ HOk o L
theorem OdRes.keepS (L : List Pr) : KeepS (OdRes L) := fun F v γ D w w' x hd ⟨p, o, h1, h2, h3⟩ => ⟨p, o, h1, h2.keep x hd, h3⟩
theorem OdPtr.keepS (L : List Pr) : KeepS (OdPtr L) := fun F v γ D w w' x hd ⟨p, o, h1, h2, h3⟩ => ⟨p, o, h1, h2.keep x hd, h3⟩
def HyIs (w : World) (v : Value) (L : List Pr) : Prop := ∃ ph po o, v = .pointer (some ⟨ph, 0, none⟩) ∧ At w ph 0 [.pointer (some ⟨po, 0, none⟩)] ∧ OdAt (Lt w.heap.size) w po o ∧ HOk o L
theorem HyIs.ext {γ : Prop} {w w' : World} {v : Value} {L : List Pr} (h : HyIs w v L) (x : Ext γ w w') : HyIs w' v L :=
 let ⟨ph, po, o, h1, h2, h3, h4⟩ := h
 ⟨ph, po, o, h1, h2.keep x id, (h3.ext x).mono fun _ hb _ => hb, h4⟩
theorem HyIs.congr {w : World} {v : Value} {L M : List Pr} (h : HyIs w v L) (hm : ∀ x, x ∈ L ↔ x ∈ M) (hl : L.length ≤ M.length) : HyIs w v M :=
 let ⟨ph, po, o, h1, h2, h3, h4⟩ := h
 ⟨ph, po, o, h1, h2, h3, h4.congr hm hl⟩
theorem OpC_W2 {S : (Nat → Prop) → Value → World → Prop} {β : Prop} {k : Nat} {P : Program} {ops : Array Oper} {o : Oper} {fr : Fr} {w : World} {c : Nat → Nat} {f : FuncId} {args : Array Value} (G : Nat → Prop) (hG : ∀ b, G b → b < w.heap.size ∧ c b = 0) (hg : o.guard = none) (h : xop P fr w o = .ok (.enter f args) w) (hk : Ok P f args w fun v' w' => S (fun b => G b ∨ Fsh w w' b) v' w' ∧ Ext β w w') (hd : o.dst.isSome = true := by rfl) : OpC β k P ops o fr w c (postW S) :=
 .inl ⟨by simp [Region.wanted, hg], .inr ⟨f, args, w, h, hd, hk.mono fun _ w' ⟨a, x⟩ => ⟨newC c w 0, StepC.ext x fun _ hb => newC_old hb, _, fun b hb => by
  rcases hb with hb | hb
  ·exact ⟨Nat.lt_of_lt_of_le (hG b hb).1 x.size, (newC_old (hG b hb).1).trans (hG b hb).2⟩
  ·exact ⟨hb.2, newC_new hb.1⟩, a⟩⟩⟩
theorem Rd.keepS {α : Type} (enc : α → List Value) (k : Nat) (p : List α → Prop) : KeepS fun F v w => ∃ l, Rd enc k F w v l ∧ p l := fun F v γ D w w' x hd ⟨l, h1, h2⟩ => ⟨l, h1.keep x hd, h2⟩
def postAny : PostC := fun _ _ _ => True
theorem postAny_stable {k : Nat} : StableC k postAny := fun _ _ _ _ _ _ _ _ _ => trivial
def LkP (L : List Pr) (x : Pr) (M : List Pr) : Prop := x ∈ L ∧ M = L ∨ x ∉ L ∧ InsP L x M
def LkRes (L : List Pr) (x : Pr) (F : Nat → Prop) (v : Value) (w : World) : Prop := ∃ u M e, v = .tuple #[u, .int .i64 e] ∧ Rd encPr 2 F w u M ∧ LkP L x M
theorem LkRes.keepS (L : List Pr) (x : Pr) : KeepS (LkRes L x) := fun F v γ D w w' x hd ⟨u, M, e, h1, h2, h3⟩ => ⟨u, M, e, h1, h2.keep x hd, h3⟩
theorem LkP.ok {L M : List Pr} {x : Pr} {ρ : Fin 64 → Nat} (h : LkOk L ρ) (hp : LkP L x M) (hr : ρ x.1 < ρ x.2) (hq : 1 ≤ x.1.val ∧ 1 ≤ x.2.val) : LkOk M ρ ∧ M.length ≤ L.length + 1 := by
 rcases hp with ⟨_, rfl⟩ | ⟨hn, hi⟩
 ·exact ⟨h, by omega⟩
 ·exact ⟨h.ins hi hn hr hq, by rw [hi.len]; omega⟩
theorem prB (z : Pr) (x y : Fin 64) : (iv z.1 == iv x && iv z.2 == iv y) = (z == (x, y)) := by
 rw [iv_beq, iv_beq]; rfl
section
variable {P : Program} {fr : Fr} {w : World} {d : Option Nat} {t : TypeId} {ps : String} {af : Array Edge} {g : Option (Nat × Bool)}
theorem o_convU {T U : TypeId} {x : Operand} {a : W64} {n : Nat} (hP : P.underlying T = some (.int .u64)) (hP' : P.underlying U = some (.int .i64)) (hx : ev fr x = u64 a) (hn : a.toNat = n) (hl : n < 9223372036854775808) : xop P fr w ⟨d, .convert T U x, t, ps, af, g⟩ = .ok (.value (.int .i64 (n : Int))) w := by
 have h := o_conv (w := w) (d := d) (t := t) (ps := ps) (af := af) (g := g) (k' := .i64) hP hP' hx
 have e : IntKind.i64.wrap (a.toNat : Int) = (n : Int) := by rw [hn]; exact JT (by unfold I64; omega)
 rw [e] at h
 exact h
end
section
variable {α : Type} {enc : α → List Value} {k : Nat} {F : Nat → Prop} {P : Program} {fr : Fr} {w : World} {d : Option Nat} {t : TypeId} {ps : String} {af : Array Edge} {g : Option (Nat × Bool)} {a : Option Addr} {c i m : Nat} {l : List α} {y : α} {T : TypeId} {x z : Operand}
theorem o_faE {fs : Array Field} {f n : Nat} {G : Field} (hP : P.underlying T = some (.struct fs)) (hf : fs[f]? = some G) (hs : ∀ w, (sizeOf G.type).run P w = .ok (n + 1) w) (hr : Sl enc k F w a c l) (hx : ev fr x = .pointer (elp a m)) (hi : l[i]? = some y) :
  xop P fr w ⟨d, .fieldAddr T x f, t, ps, af, g⟩ = .ok (.value (.pointer (elp a (m + G.offset)))) w := by
 obtain ⟨b, off, rfl, _, _, _⟩ := hr.el i _ hi
 rw [J1] at hx ⊢
 rw [← Nat.add_assoc]
 exact ZN hP hf hs hx
theorem o_iaE {e : TypeId} {n j s : Nat} {K : IntKind} (hP : P.underlying T = some (.array n e)) (hs : ∀ w, (sizeOf e).run P w = .ok s w) (hr : Sl enc k F w a c l) (hx : ev fr x = .pointer (elp a m)) (hi : l[i]? = some y) (hy : ev fr z = .int K (j : Int)) (hj : j < n) :
  xop P fr w ⟨d, .indexAddr T x z, t, ps, af, g⟩ = .ok (.value (.pointer (elp a (m + j * s)))) w := by
 obtain ⟨b, off, rfl, _, _, _⟩ := hr.el i _ hi
 rw [J1] at hx ⊢
 rw [← Nat.add_assoc]
 exact o_iaA hP hs hx hy hj
theorem o_ldE {j : Nat} {v : Value} (ha : ∀ w, (isAgg T).run P w = .ok false w) (hr : Sl enc k F w a c l) (hx : ev fr x = .pointer (elp a (i * k + j))) (hi : l[i]? = some y) (hv : (enc y)[j]? = some v) :
  xop P fr w ⟨d, .load T x, t, ps, af, g⟩ = .ok (.value v) w := by
 obtain ⟨b, off, rfl, _, h3, _⟩ := hr.el i _ hi
 rw [J1] at hx
 have h := h3 j v hv
 rw [Nat.add_assoc] at h
 exact ZB ha hx h
end
theorem o_slfrom2 {P : Program} {fr : Fr} {w : World} {d : Option Nat} {t e T : TypeId} {ps : String} {af : Array Edge} {g : Option (Nat × Bool)} {x y : Operand} {a : Option Addr} {m c s j : Nat} (hP : P.underlying T = some (.slice e)) (hs : ∀ w, (sizeOf e).run P w = .ok s w) (hx : ev fr x = .slice a m c) (hj : ev fr y = .int .i64 (j : Int)) (hl : j ≤ m) (hc : m ≤ c) :
  xop P fr w ⟨d, .slice T x (some y) none none, t, ps, af, g⟩ = .ok (.value (.slice (if c = j then a else elp a (j * s)) (m - j) (c - j))) w := by
 rcases Nat.lt_or_ge j c with h | h
 ·rw [if_neg (by omega)]; exact o_sfromO hP hs hx hj hl h
 ·obtain rfl : c = j := by omega
  obtain rfl : m = c := by omega
  rw [if_pos rfl]
  simp [xop, execOp, hx, hj, Instr.slice, Instr.sliceAt, Instr.sliceBounds, Instr.sliceBound, asIntOf, run_underlying hP, hs, elp]
theorem o_convV {P : Program} {fr : Fr} {w : World} {d : Option Nat} {t : TypeId} {ps : String} {af : Array Edge} {g : Option (Nat × Bool)} {T U : TypeId} {x : Operand} {n : Nat} (hP : P.underlying T = some (.int .i64)) (hP' : P.underlying U = some (.int .u64)) (hx : ev fr x = .int .i64 (n : Int)) (hl : n < 18446744073709551616) : xop P fr w ⟨d, .convert T U x, t, ps, af, g⟩ = .ok (.value (u64 (BitVec.ofNat 64 n))) w := by
 have h := o_conv (w := w) (d := d) (t := t) (ps := ps) (af := af) (g := g) (k' := .u64) hP hP' hx
 rw [wrapU'] at h
 exact h
def SvIs (e : W64) (F : Nat → Prop) (v : Value) (w : World) : Prop := ∃ a c, v = .agg (encSV ⟨a, c, e⟩).toArray ∧ Sl encU 1 F w a c (wl e)
theorem SvIs.keepS (e : W64) : KeepS (SvIs e) := fun F v γ D w w' x hd ⟨a, c, h1, h2⟩ => ⟨a, c, h1, h2.keep x hd⟩
theorem o_convB8 {P : Program} {fr : Fr} {w : World} {d : Option Nat} {t : TypeId} {ps : String} {af : Array Edge} {g : Option (Nat × Bool)} {T U : TypeId} {x : Operand} {b : UInt8} (hP : P.underlying T = some (.int .u8)) (hP' : P.underlying U = some (.int .u64)) (hx : ev fr x = .int .u8 (b.toNat : Int)) : xop P fr w ⟨d, .convert T U x, t, ps, af, g⟩ = .ok (.value (u64 (BitVec.ofNat 64 b.toNat))) w := by
 have h := o_conv (w := w) (d := d) (t := t) (ps := ps) (af := af) (g := g) (k' := .u64) hP hP' hx
 rw [wrapU'] at h
 exact h
def postBoxK (w0 : World) (T : TypeId) (cs : List Value) (kc : Nat) : PostC := fun v w c => ∃ b, v = .pointer (some ⟨b, 0, none⟩) ∧ w0.heap.size ≤ b ∧ Box w b T cs ∧ c b = kc
theorem postBoxK_stable {w0 : World} {T : TypeId} {cs : List Value} {kc : Nat} : StableC kc (postBoxK w0 T cs kc) := by
 rintro v w c w' c' q hq hx ⟨b, h1, h2, h3, h4⟩
 exact ⟨b, h1, h2, h3.keep hx.bel fun hd => hq.elim hd.1 (fun h => h (by rw [← hd.2]; exact h4)), (hx.col b h3.lt).trans h4⟩
theorem OpC_boxK {β : Prop} {P : Program} {fr : Fr} {w w0 : World} {c : Nat → Nat} {ops : Array Oper} {kc : Nat} {T : TypeId} {z : Value} {o : Oper} (hw : w0.heap.size ≤ w.heap.size) (hg : o.guard = none) (h : xop P fr w o = .ok (.value (.pointer (some ⟨w.heap.size, 0, none⟩))) (w.alloc (.cells z.cells T))) (hd : o.dst.isSome = true := by rfl) : OpC β kc P ops o fr w c (postBoxK w0 T z.cells.toList kc) :=
 .inl ⟨by simp [Region.wanted, hg], .inl ⟨_, _, newC c w kc, .inl ⟨h, hd⟩, StepC.ext (Ext.alloc _ _) fun _ hb => newC_old hb, w.heap.size, rfl, hw, Box.alloc w z.cells T, newC_new (Nat.le_refl _)⟩⟩
theorem OpC_storeLk {β : Prop} {P : Program} {fr : Fr} {w w0 : World} {c : Nat → Nat} {ops : Array Oper} {ty : TypeId} {pos : String} {after : Array Edge} {kc s b m : Nat} {U T : TypeId} {y : Operand} {cs : List Value} {v : Value} (h0 : kc ≠ 0) (hs : ∀ w, (sizeOf U).run P w = .ok m w) (hx : ev fr (.tmp s) = .pointer (some ⟨b, 0, none⟩)) (hy : ev fr y = v) (hn : w0.heap.size ≤ b) (hb : Box w b T cs) (hc : c b = kc) (hv : v.cells.toList.length = m) (h1 : oneL v.cells.toList = true) (hle : v.cells.toList.length = cs.length) :
  OpC β kc P ops ⟨none, .store U (.tmp s) y, ty, pos, after, none⟩ fr w c (postBoxK w0 T v.cells.toList kc) := by
 have h := OpC_storeW (β := β) (ops := ops) (ty := ty) (pos := pos) (after := after) (x := .tmp s) h0 hs hx hy hb hc hv h1 hle
 have hl : lkV ⟨none, .store U (.tmp s) y, ty, pos, after, none⟩ fr = .pointer (some ⟨b, 0, none⟩) := hx
 rcases h with ⟨hw, ⟨u, w', c', hr, hx2, hS⟩ | ⟨f, args, w1, hr, hd, _⟩⟩ | ⟨hw, _⟩
 ·refine .inl ⟨hw, .inl ⟨lkV ⟨none, .store U (.tmp s) y, ty, pos, after, none⟩ fr, w', c', ?_, hx2, ?_⟩⟩
  ·rcases hr with ⟨_, hd⟩ | ⟨hr, _⟩
   ·cases hd
   ·exact .inr ⟨hr, rfl⟩
  ·rw [hl]
   exact ⟨b, rfl, hn, hS.1, hS.2⟩
 ·cases hd
 ·cases hw
end Go.Lx
/- The bytes of numbers and sets, as the wire has them: plain law. Nothing of a program stands here. -/
namespace Go.Lx
open Go
def b7 (x : W64) : UInt8 := UInt8.ofNat (x &&& 127#64).toNat
theorem shr7_lt {x : W64} (h : x ≠ 0) : (x >>> 7).toNat < x.toNat := by
 have : x.toNat ≠ 0 := fun e => h (BitVec.eq_of_toNat_eq e)
 rw [BitVec.toNat_ushiftRight, Nat.shiftRight_eq_div_pow]; omega
def gT (x : W64) : List UInt8 := if h : x = 0 then [] else (b7 x ||| 128) :: gT (x >>> 7)
termination_by x.toNat
decreasing_by exact shr7_lt h
theorem gT_zero : gT 0 = [] := by rw [gT]; simp
theorem gT_some {x : W64} (h : x ≠ 0) : gT x = (b7 x ||| 128) :: gT (x >>> 7) := by rw [gT, dif_neg h]
def putU (x : W64) : List UInt8 := (b7 x :: gT (x >>> 7)).reverse
theorem b7_nat (x : W64) : (b7 x).toNat = x.toNat % 128 := by
 have h : (x &&& 127#64).toNat = x.toNat % 128 := by
  rw [BitVec.toNat_and]
  show x.toNat &&& 127 = _
  exact Nat.and_two_pow_sub_one_eq_mod x.toNat 7
 rw [b7, h, UInt8.toNat_ofNat']
 omega
theorem b8_nat (c : UInt8) (h : c.toNat < 128) : (c ||| 128).toNat = c.toNat + 128 := by
 rw [UInt8.toNat_or]
 show c.toNat ||| 128 = _
 have h1 := Nat.two_pow_add_eq_or_of_lt (i := 7) (b := c.toNat) h 1
 rw [Nat.or_comm]
 simp only [Nat.mul_one] at h1
 show 2 ^ 7 ||| c.toNat = _
 rw [← h1]; omega
theorem gT_ge (x : W64) : ∀ c ∈ gT x, 128 ≤ c.toNat := by
 rw [gT]
 split
 ·intro c hc; cases hc
 ·rename_i h
  have h1 := gT_ge (x >>> 7)
  intro c hc
  rcases List.mem_cons.1 hc with rfl | hc
  ·have := b7_nat x
   rw [b8_nat _ (by omega)]; omega
  ·exact h1 c hc
termination_by x.toNat
decreasing_by exact shr7_lt (by assumption)
theorem putU_eq (x : W64) : putU x = (gT (x >>> 7)).reverse ++ [b7 x] := by rw [putU, List.reverse_cons]
theorem gT_len (x : W64) (k : Nat) (h : x.toNat < 2 ^ (7 * k)) : (gT x).length ≤ k := by
 induction k generalizing x with
 | zero =>
  have : x = 0 := BitVec.eq_of_toNat_eq (by simpa using h)
  rw [this, gT_zero]; simp
 | succ k ih =>
  by_cases hx : x = 0
  ·rw [hx, gT_zero]; simp
  ·rw [gT_some hx, List.length_cons]
   have := ih (x >>> 7) (by rw [BitVec.toNat_ushiftRight, Nat.shiftRight_eq_div_pow]; rw [Nat.mul_add, Nat.pow_add] at h; omega)
   omega
theorem J7 (x : W64) : (putU x).length ≤ 11 := by
 have h := gT_len (x >>> 7) 10 (by have := (x >>> 7).isLt; omega)
 rw [putU_eq, List.length_append, List.length_reverse]; simp; omega
def putB (l : List UInt8) : List UInt8 := putU (BitVec.ofNat 64 l.length) ++ l
def byteW (x : W64) (k : Nat) : UInt8 := UInt8.ofNat (x >>> (8 * k)).toNat
structure RevI (l m : List UInt8) (i : Nat) : Prop where
 len : m.length = l.length
 le : 2 * i ≤ l.length + 1
 get : ∀ k, m[k]? = if k < i ∨ (l.length ≤ k + i ∧ k < l.length) then l[l.length - 1 - k]? else l[k]?
theorem RevI.start (l : List UInt8) : RevI l l 0 := ⟨rfl, by omega, fun k => by
 rw [if_neg (by omega)]⟩
theorem RevI.fin {l m : List UInt8} {i : Nat} (h : RevI l m i) (hi : l.length ≤ 2 * i + 1) : m = l.reverse := by
 refine List.ext_getElem? fun k => ?_
 rw [h.get k]
 by_cases hk : k < l.length
 ·rw [List.getElem?_reverse hk]
  split
  ·rfl
  ·have : k = l.length - 1 - k := by omega
   rw [← this]
 ·have h1 : l.reverse[k]? = none := by simp; omega
  rw [h1]
  split
  ·rename_i h2
   have := h.le
   have : l.length - 1 - k = 0 := by omega
   rcases Nat.eq_zero_or_pos l.length with h0 | h0
   ·simp [List.length_eq_zero_iff.1 h0]
   ·omega
  ·simp; omega
theorem RevI.step {l m : List UInt8} {i j : Nat} (h : RevI l m i) (hj : l.length = i + j + 1) (hij : i < j) : RevI l ((m.set i (m.getD j 0)).set j (m.getD i 0)) (i + 1) := by
 have hm := h.len
 refine ⟨by simp [hm], by omega, fun k => ?_⟩
 have h1 : m.getD j 0 = l.getD j 0 := by simp only [List.getD]; rw [h.get j, if_neg (by omega)]
 have h2 : m.getD i 0 = l.getD i 0 := by simp only [List.getD]; rw [h.get i, if_neg (by omega)]
 have gi : l[i]? = some (l.getD i 0) := by simp [List.getD, show i < l.length by omega]
 have gj : l[j]? = some (l.getD j 0) := by simp [List.getD, show j < l.length by omega]
 rw [h1, h2, List.getElem?_set, List.getElem?_set]
 by_cases e1 : j = k
 ·subst e1
  rw [if_pos rfl, if_pos (by simp; omega), if_pos (by omega), show l.length - 1 - j = i by omega, gi]
 ·rw [if_neg e1]
  by_cases e2 : i = k
  ·subst e2
   rw [if_pos rfl, if_pos (by omega), if_pos (by omega), show l.length - 1 - i = j by omega, gj]
  ·rw [if_neg e2, h.get k]
   by_cases c : k < i ∨ (l.length ≤ k + i ∧ k < l.length)
   ·rw [if_pos c, if_pos (by omega)]
   ·rw [if_neg c]
    by_cases c2 : k < i + 1 ∨ (l.length ≤ k + (i + 1) ∧ k < l.length)
    ·omega
    ·rw [if_neg c2]
structure BytI (x : W64) (n k : Nat) (m : List UInt8) : Prop where
 len : m.length = n
 get : ∀ j, j < k → m[j]? = some (byteW x j)
theorem BytI.start (x : W64) (n : Nat) : BytI x n 0 (List.replicate n 0) := ⟨by simp, fun j h => absurd h (Nat.not_lt_zero _)⟩
theorem BytI.step {x : W64} {n k : Nat} {m : List UInt8} (h : BytI x n k m) (hk : k < n) : BytI x n (k + 1) (m.set k (byteW x k)) := by
 have hl := h.len
 refine ⟨by simp [hl], fun j hj => ?_⟩
 rw [List.getElem?_set]
 by_cases e : k = j
 ·subst e; rw [if_pos rfl, if_pos (by omega)]
 ·rw [if_neg e]; exact h.get j (by omega)
theorem BytI.fin {x : W64} {n k : Nat} {m : List UInt8} (h : BytI x n k m) (hk : n ≤ k) : m = (List.range n).map (byteW x) := by
 refine List.ext_getElem? fun j => ?_
 by_cases hj : j < n
 ·rw [h.get j (by omega), List.getElem?_map, List.getElem?_range hj]; rfl
 ·rw [List.getElem?_eq_none (by rw [h.len]; omega), List.getElem?_eq_none (by simp; omega)]
def iW (i : Int) : W64 := BitVec.ofNat 64 i.toNat
def putF (b : Bool) : UInt8 := if b then 1 else 0
end Go.Lx
/- A writer of bytes in memory; the rules of its operations. Nothing of a program stands here. -/
namespace Go.Lx
open Go Go.RowKit
def Wr (T e : TypeId) (D : Nat → Prop) (w : World) (v : Value) (l : List UInt8) : Prop := ∃ b u, v = .pointer (some ⟨b, 0, none⟩) ∧ D b ∧ Box w b T [u] ∧ Own encB 1 e (fun g => D g ∧ g ≠ b) w u l
section
variable {T e : TypeId} {D D' : Nat → Prop} {γ : Prop} {w w' : World} {v : Value} {l : List UInt8}
theorem Wr.keepD (h : Wr T e D w v l) (x : Bel γ D' w w') (hd : ∀ g, g < w.heap.size → D g → ¬ D' g) : Wr T e D w' v l :=
 let ⟨b, u, h1, h2, h3, h4⟩ := h
 ⟨b, u, h1, h2, h3.keep x (hd b h3.lt h2), h4.keepD x fun g hg hD => hd g hg hD.1⟩
theorem Wr.ext (h : Wr T e D w v l) (x : Ext γ w w') : Wr T e D w' v l := h.keepD x fun _ _ _ => id
theorem Wr.mono (h : Wr T e D w v l) (hd : ∀ g, g < w.heap.size → D g → D' g) : Wr T e D' w v l :=
 let ⟨b, u, h1, h2, h3, h4⟩ := h
 ⟨b, u, h1, hd b h3.lt h2, h3, h4.mono fun g hg hD => ⟨hd g hg hD.1, hD.2⟩⟩
end
section
variable {P : Program} {fr : Fr} {w : World} {d : Option Nat} {t : TypeId} {ps : String} {af : Array Edge} {g : Option (Nat × Bool)} {x y z : Operand} {T U : TypeId}
theorem wrapU8 (n : Nat) : IntKind.u8.wrap (n : Int) = ((UInt8.ofNat n).toNat : Int) := by
 rw [UInt8.toNat_ofNat']
 simp [IntKind.wrap, IntKind.bits, IntKind.signed]
theorem o_convUB {a : W64} (hP : P.underlying T = some (.int .u64)) (hP' : P.underlying U = some (.int .u8)) (hx : ev fr x = u64 a) : xop P fr w ⟨d, .convert T U x, t, ps, af, g⟩ = .ok (.value (.int .u8 ((UInt8.ofNat a.toNat).toNat : Int))) w := by
 have h := o_conv (w := w) (d := d) (t := t) (ps := ps) (af := af) (g := g) (k' := .u8) hP hP' hx
 rw [wrapU8] at h
 exact h
theorem o_convI {i : Int} (hP : P.underlying T = some (.int .i64)) (hP' : P.underlying U = some (.int .u64)) (hx : ev fr x = .int .i64 i) (h0 : 0 ≤ i) (hl : i < 18446744073709551616) : xop P fr w ⟨d, .convert T U x, t, ps, af, g⟩ = .ok (.value (u64 (BitVec.ofNat 64 i.toNat))) w := by
 obtain ⟨n, rfl⟩ := Int.eq_ofNat_of_zero_le h0
 exact o_convV hP hP' hx (by omega)
theorem o_quoN {V : TypeId} {a b : Nat} (hx : ev fr x = .int .i64 (a : Int)) (hy : ev fr y = .int .i64 (b : Int)) (hb : 0 < b) (hr : a ≤ 9223372036854775807) : xop P fr w ⟨d, .binOp .quo T x y V, t, ps, af, g⟩ = .ok (.value (.int .i64 ((a / b : Nat) : Int))) w :=
 o_quoT (a := (a : Int)) hx hy (by omega) hb (by unfold I64; omega)
theorem o_mulN {V : TypeId} {a b : Nat} (hx : ev fr x = .int .i64 (a : Int)) (hy : ev fr y = .int .i64 (b : Int)) (hr : a * b ≤ 9223372036854775807) : xop P fr w ⟨d, .binOp .mul T x y V, t, ps, af, g⟩ = .ok (.value (.int .i64 ((a * b : Nat) : Int))) w := by
 have h := o_mul (P := P) (w := w) (d := d) (t := t) (ps := ps) (af := af) (g := g) (T := T) (U := V) hx hy (by unfold I64; rw [← Int.natCast_mul]; omega)
 rwa [← Int.natCast_mul] at h
def a31 (a : Int) : Int := ((BitVec.ofInt 64 a &&& 31#64).toNat : Int)
theorem o_bandB {a b : UInt8} (hx : ev fr x = .int .u8 (a.toNat : Int)) (hy : ev fr y = .int .u8 (b.toNat : Int)) : xop P fr w ⟨d, .binOp .and T x y U, t, ps, af, g⟩ = .ok (.value (.int .u8 ((a &&& b).toNat : Int))) w := by
 have e1 : (BitVec.ofInt 8 (a.toNat : Int)) = a.toBitVec := by
  rw [BitVec.ofInt_natCast]; apply BitVec.eq_of_toNat_eq; rw [BitVec.toNat_ofNat]; exact Nat.mod_eq_of_lt a.toNat_lt
 have e2 : (BitVec.ofInt 8 (b.toNat : Int)) = b.toBitVec := by
  rw [BitVec.ofInt_natCast]; apply BitVec.eq_of_toNat_eq; rw [BitVec.toNat_ofNat]; exact Nat.mod_eq_of_lt b.toNat_lt
 have e : IntKind.u8.wrap ((BitVec.ofInt IntKind.u8.bits (a.toNat : Int) &&& BitVec.ofInt IntKind.u8.bits (b.toNat : Int)).toNat : Int) = ((a &&& b).toNat : Int) := by
  show IntKind.u8.wrap ((BitVec.ofInt 8 (a.toNat : Int) &&& BitVec.ofInt 8 (b.toNat : Int)).toNat : Int) = _
  rw [e1, e2, ← UInt8.toBitVec_and]
  show IntKind.u8.wrap (((a &&& b).toNat : Nat) : Int) = _
  rw [wrapU8, UInt8.ofNat_toNat]
 simp only [xop, execOp, hx, hy, eqGuard, binOp, Op.intBits]
 simp only [e]; simp
theorem o_borB {a b : UInt8} (hx : ev fr x = .int .u8 (a.toNat : Int)) (hy : ev fr y = .int .u8 (b.toNat : Int)) : xop P fr w ⟨d, .binOp .or T x y U, t, ps, af, g⟩ = .ok (.value (.int .u8 ((a ||| b).toNat : Int))) w := by
 have e1 : (BitVec.ofInt 8 (a.toNat : Int)) = a.toBitVec := by
  rw [BitVec.ofInt_natCast]; apply BitVec.eq_of_toNat_eq; rw [BitVec.toNat_ofNat]; exact Nat.mod_eq_of_lt a.toNat_lt
 have e2 : (BitVec.ofInt 8 (b.toNat : Int)) = b.toBitVec := by
  rw [BitVec.ofInt_natCast]; apply BitVec.eq_of_toNat_eq; rw [BitVec.toNat_ofNat]; exact Nat.mod_eq_of_lt b.toNat_lt
 have e : IntKind.u8.wrap ((BitVec.ofInt IntKind.u8.bits (a.toNat : Int) ||| BitVec.ofInt IntKind.u8.bits (b.toNat : Int)).toNat : Int) = ((a ||| b).toNat : Int) := by
  show IntKind.u8.wrap ((BitVec.ofInt 8 (a.toNat : Int) ||| BitVec.ofInt 8 (b.toNat : Int)).toNat : Int) = _
  rw [e1, e2, ← UInt8.toBitVec_or]
  show IntKind.u8.wrap (((a ||| b).toNat : Nat) : Int) = _
  rw [wrapU8, UInt8.ofNat_toNat]
 simp only [xop, execOp, hx, hy, eqGuard, binOp, Op.intBits]
 simp only [e]; simp
end
def postOwnAt {α : Type} (enc : α → List Value) (k : Nat) (e : TypeId) (kc : Nat) (u : Value) (l : List α) : PostC := fun _ w c => Own enc k e (fun b => c b = kc) w u l
theorem postOwnAt_stable {α : Type} {enc : α → List Value} {k kc : Nat} {e : TypeId} {u : Value} {l : List α} : StableC kc (postOwnAt enc k e kc u l) := fun v w c w' c' q hq hx hp => Jm u w c w' c' q hq hx hp
theorem OpC_elst {α : Type} {enc : α → List Value} {k : Nat} {e U : TypeId} {β : Prop} {P : Program} {fr : Fr} {w : World} {c : Nat → Nat} {ops : Array Oper} {ty : TypeId} {pos : String} {after : Array Edge} {kc : Nat} {x y : Operand} {v : Value} {l : List α} {a : Option Addr} {cp i m : Nat} {u : α} (h0 : kc ≠ 0)
  (he : EncOk enc k) (hs : ∀ w, (sizeOf U).run P w = .ok k w) (hx : ev fr x = .pointer (elp a (i * k))) (hy : ev fr y = v) (hv : v.cells.toList = enc u) (ho : Own enc k e (fun g => c g = kc) w (.slice a m cp) l) (hi : i < l.length) :
  OpC β kc P ops ⟨none, .store U x y, ty, pos, after, none⟩ fr w c (postOwnAt enc k e kc (.slice a m cp) (l.set i u)) := by
 rcases ho.row.2 with ⟨h1, h2⟩ | ⟨g, cap, cur, h1, h2, h3, h4, h5, h6, h7⟩
 ·omega
 ·have hsl : a = some ⟨g, 0, none⟩ ∧ m = l.length ∧ cp = cap := by simp at h1; exact h1
  obtain ⟨rfl, rfl, rfl⟩ := hsl
  rw [J1, Nat.zero_add] at hx
  have hlk : l.length * k ≤ cur.size := by rw [h6]; exact Nat.mul_le_mul_right _ h4
  have hik : i * k + k ≤ l.length * k := by rw [← Nat.succ_mul]; exact Nat.mul_le_mul_right _ hi
  have hvl : v.cells.toList.length = k := by rw [hv, he.len]
  have hst := run_storeCells_at (P := P) g (i * k) e v.cells.toList 0 cur w h3 (by rw [hvl]; omega) (by rw [hv]; exact he.one u)
  simp only [Nat.add_zero, hvl] at hst
  have hsz : v.cells.size = k := by rw [← Array.length_toList]; exact hvl
  have hcg : c g = kc := ho.loc g rfl
  refine .inl ⟨rfl, .inl ⟨lkV _ fr, w.setRow g (cur.toList.take (i * k) ++ v.cells.toList ++ cur.toList.drop (i * k + k)).toArray, c, .inr ⟨?_, rfl⟩, ⟨⟨rfl, rfl, rfl, by simp, fun j _ hj => setRow_other w g j _ (fun e => hj ⟨h0, by subst e; exact hcg⟩), fun _ => Nat.le_refl _⟩, fun _ _ => rfl⟩, ?_⟩⟩
  ·simp [execOp, hx, hy, Instr.storeAt, Instr.sureAddr, storeVar, hs, hsz, hst]
  ·have hcl : (cur.toList.take (i * k) ++ v.cells.toList ++ cur.toList.drop (i * k + k)).length = cur.size := by
    simp only [List.length_append, hvl, List.length_take, List.length_drop, Array.length_toList]; omega
   refine ⟨⟨by rw [J9 he], .inr ⟨g, cp, _, by simp, h2, setRow_heap w g cur _ e _ h3, by simpa using h4, h5, by rw [List.size_toArray, hcl, h6], ?_⟩⟩, ho.loc⟩
   rw [List.length_set, List.toList_toArray, set_flat he hi, ← hv]
   have t1 : cur.toList.take (i * k) = (l.flatMap enc).take (i * k) := by rw [← h7, List.take_take]; congr 1; omega
   have t2 : (l.flatMap enc).drop (i * k + k) = (cur.toList.drop (i * k + k)).take (l.length * k - (i * k + k)) := by rw [← h7, List.drop_take]
   rw [t1, t2]
   have hA : ((l.flatMap enc).take (i * k) ++ v.cells.toList).length = i * k + k := by
    rw [List.length_append, hvl, List.length_take, J9 he]; omega
   rw [List.take_append, hA, List.take_of_length_le (by rw [hA]; exact hik)]
section
variable {rd : Option Nat} {P : Program} {n : Nat} {K : Fr → World → Prop} {fr : Fr} {w : World} {l : List UInt8} {T U e : TypeId} {x : Operand} {a : Option Addr} {c : Nat} {F : Nat → Prop}
theorem o_bs {d : Option Nat} {t : TypeId} {ps : String} {af : Array Edge} {g : Option (Nat × Bool)} (hP : P.underlying T = some (.slice e)) (he : P.underlying e = some (.int .u8)) (hU : P.underlying U = some .string) (hx : ev fr x = .slice a l.length c) (hs : Sl encB 1 F w a c l) :
  xop P fr w ⟨d, .convert T U x, t, ps, af, g⟩ = .ok (.value (str l)) w := by
 have key : (convert T U (.slice a l.length c)).run P w = .ok (str l) w := by
  cases a with
  | none =>
   have h0 : c = 0 := hs.nil rfl
   have h1 := hs.le
   have h2 : l = [] := List.eq_nil_of_length_eq_zero (by omega)
   subst h2
   rw [run_convert_bytes_string w T U e none _ c hP he hU]
   simp [Conv.bytesToString, str]
   rfl
  | some ad =>
   refine run_convert_bytes_back w T U e ad c l hP he hU fun j hj => ?_
   have hne : l ≠ [] := by rintro rfl; simp at hj
   obtain ⟨b, off, h1, h2, h3⟩ := hs.cells Z6 hne
   simp only [Option.some.injEq] at h1
   subst h1
   have hfm : (l.flatMap encB)[j]? = some (.int .u8 (l[j].toNat : Int)) := by
    have h4 := fm_get (i := j) (x := l[j]) Z6 (List.getElem?_eq_getElem hj) 0 (by decide)
    simpa [encB] using h4
   have := h3 j _ hfm
   unfold Addr.add
   by_cases h : j = 0
   ·subst h; simpa using this
   ·rw [if_neg h]; exact this
 simp only [xop, execOp, hx, key, eqGuard]
 simp [key]
theorem Rg_sb {ops : Array Oper} {rest : List Oper} {d : Option Nat} {ty : TypeId} {pos : String} {af : Array Edge} (hd : dstOk n d = true) (hP : P.underlying T = some .string) (hU : P.underlying U = some (.slice e)) (he : P.underlying e = some (.int .u8)) (hx : ev fr x = str l) (hl : l.length ≤ 100000000)
  (hk : ∀ a' c' w', Ext False w w' → Sl encB 1 (fun g => w.heap.size ≤ g) w' a' c' l → Rg rd P n ops rest K (fr.put d (.slice a' l.length c')) w') :
  Rg rd P n ops (⟨d, .convert T U x, ty, pos, af, none⟩ :: rest) K fr w := by
 have hrun := run_bytes_of_string (P := P) w T U e ⟨l.toArray⟩ hP hU he
 have hsz : (⟨l.toArray⟩ : ByteArray).size = l.length := by simp [ByteArray.size]
 rw [hsz] at hrun
 refine Rg_run hd (v := .slice (some ⟨w.heap.size, 0, none⟩) l.length (grownCap w l.length 0 e)) (w' := w.drew.alloc (.cells (bytesRow ⟨l.toArray⟩ (grownCap w l.length 0 e)) e ((bytesRow ⟨l.toArray⟩ (grownCap w l.length 0 e)).size, (bytesRow ⟨l.toArray⟩ (grownCap w l.length 0 e)).size + 1))) ?_ (hk _ _ _ ((Ext.drew w).ex (Ext.alloc _ _)) ?_)
 ·simp only [execOp, hx, str]
  simp [hrun]
 ·refine ⟨grownCap_ge _ _ _ _, grownCap_le_maxLen _ _ _ _ (by unfold maxLen; omega), (fun h => by cases h), fun i v hi => ?_⟩
  have hil := (List.getElem?_eq_some_iff.1 hi).1
  refine ⟨w.heap.size, 0, rfl, ⟨Nat.le_refl _, by show w.heap.size < (w.heap.push _).size; rw [Array.size_push]; exact Nat.lt_succ_self _⟩, ?_, rfl⟩
  intro j u hj
  have hj0 : j = 0 := by
   have := (List.getElem?_eq_some_iff.1 hj).1
   simp [encB] at this; omega
  subst hj0
  have hu : u = .int .u8 (v.toNat : Int) := by simp [encB] at hj; exact hj.symm
  have hc := World.cell?_alloc_mark w.drew (bytesRow ⟨l.toArray⟩ (grownCap w l.length 0 e)) e ((bytesRow ⟨l.toArray⟩ (grownCap w l.length 0 e)).size, (bytesRow ⟨l.toArray⟩ (grownCap w l.length 0 e)).size + 1) i
  have hb := bytesRow_at ⟨l.toArray⟩ (grownCap w l.length 0 e) i (by simpa using hil)
  rw [hb] at hc
  rw [hu]
  have e1 : l[i] = v := by simpa using (List.getElem?_eq_some_iff.1 hi).2
  simp only [Nat.mul_one, Nat.zero_add, Nat.add_zero]
  simpa [e1] using hc
end
def OwA {α : Type} (enc : α → List Value) (k : Nat) (e : TypeId) (w : World) (g : Nat) (v : Value) (l : List α) : Prop := Own enc k e (fun b => b = g) w v l ∧ v.ownBlock = some g ∧ g < w.heap.size
section
variable {α : Type} {enc : α → List Value} {k kc : Nat} {e : TypeId} {D : Nat → Prop} {w w' : World} {g : Nat} {v : Value} {l : List α} {c : Nat → Nat}
theorem OwA.lt (h : OwA enc k e w g v l) : g < w.heap.size := h.2.2
theorem OwA.col (h : OwA enc k e w g v l) (hc : c g = kc) : Own enc k e (fun b => c b = kc) w v l := h.1.mono fun b _ hb => by subst hb; exact hc
theorem OwA.blk (h : OwA enc k e w g v l) (hb : w'.heap[g]? = w.heap[g]?) : OwA enc k e w' g v l := by
 obtain ⟨⟨hr, hl⟩, ho, hlt⟩ := h
 have hlt' : g < w'.heap.size := by
  rw [Array.getElem?_eq_getElem hlt] at hb
  exact (Array.getElem?_eq_some_iff.1 hb).1
 refine ⟨⟨⟨hr.1, ?_⟩, hl⟩, ho, hlt'⟩
 rcases hr.2 with ⟨h1, h2⟩ | ⟨g', cap, cur, h1, h2, h3, h4⟩
 ·exact .inl ⟨h1, h2⟩
 ·have e1 : g' = g := by rw [h1] at ho; simpa [Value.ownBlock] using ho
  subst e1
  exact .inr ⟨g', cap, cur, h1, h2, hb.trans h3, h4⟩
theorem Own.blk0 (h : Own enc k e D w v l) (hne : l ≠ []) : ∃ g, v.ownBlock = some g ∧ D g ∧ OwA enc k e w g v l := by
 obtain ⟨g, c, rfl⟩ := h.sm hne
 have hg : (Value.slice (some ⟨g, 0, none⟩) l.length c).ownBlock = some g := rfl
 exact ⟨g, hg, h.loc g hg, h.at (fun b _ hb => by rw [hg] at hb; cases hb; rfl), hg, h.lt g hg⟩
end
