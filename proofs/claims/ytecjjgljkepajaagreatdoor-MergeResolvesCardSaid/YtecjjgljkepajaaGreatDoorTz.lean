/- Several texts in one file. -/
import Derived.Test.YtecjjgljkepajaaGreatDoorSort
import Derived.Lib.TrailingZeros
import Derived.Test.YtecjjgljkepajaaGreatDoorPure11
import Derived.Test.YtecjjgljkepajaaGreatDoorDraw
import Derived.Laws.Pointers
set_option linter.unusedSimpArgs false
set_option linter.unusedVariables false
set_option linter.unnecessarySimpa false
/- The members of a word, from the least on; the library's count of trailing zeros; a call of yield. -/
namespace Go.Lx
open Go Go.RowKit
def ctzW (x : W64) : Nat := Lib.ctz 64 x.toNat
theorem ctz_spec {x : W64} (h : x ≠ 0) : ∃ m, x.toNat = 2 ^ ctzW x * (2 * m + 1) ∧ ctzW x < 64 := by
 have h0 : x.toNat ≠ 0 := fun e => h (by apply BitVec.eq_of_toNat_eq; simpa using e)
 have := Lib.ctzFrom_spec 64 x.toNat (by omega) x.isLt
 have e : ctzW x = Lib.ctzFrom 64 x.toNat := by simp [ctzW, Lib.ctz, h0]
 rw [e]; exact this
theorem odd_bit (m i : Nat) : (2 * m + 1).testBit i = if i = 0 then true else m.testBit (i - 1) := by
 cases i with
 | zero => simp [Nat.testBit_zero]
 | succ i => simp [Nat.testBit_succ]; congr 1; omega
theorem even_bit (m i : Nat) : (2 * m).testBit i = if i = 0 then false else m.testBit (i - 1) := by
 cases i with
 | zero => simp [Nat.testBit_zero]
 | succ i => simp [Nat.testBit_succ]
theorem ctz_bit {x : W64} (h : x ≠ 0) (i : Nat) : x.getLsbD i = if i < ctzW x then false else if i = ctzW x then true else x.getLsbD i := by
 obtain ⟨m, hm, hk⟩ := ctz_spec h
 have e : x.getLsbD i = x.toNat.testBit i := rfl
 by_cases h1 : i < ctzW x
 ·rw [if_pos h1, e, hm]
  have := Nat.testBit_two_pow_mul_add (2 * m + 1) (b := 0) (i := ctzW x) (by exact Nat.two_pow_pos _) i
  rw [Nat.add_zero] at this
  rw [this, if_pos h1]; simp
 ·rw [if_neg h1]
  by_cases h2 : i = ctzW x
  ·rw [if_pos h2, e, hm]
   have := Nat.testBit_two_pow_mul_add (2 * m + 1) (b := 0) (i := ctzW x) (by exact Nat.two_pow_pos _) i
   rw [Nat.add_zero] at this
   rw [this, if_neg h1, odd_bit, if_pos (by omega)]
  ·rw [if_neg h2]
theorem clear_bit {x : W64} (h : x ≠ 0) (i : Nat) : (x &&& (x - 1#64)).getLsbD i = (x.getLsbD i && !decide (i = ctzW x)) := by
 obtain ⟨m, hm, hk⟩ := ctz_spec h
 have hp : 0 < 2 ^ ctzW x := Nat.two_pow_pos _
 have h0 : 1 ≤ x.toNat := by rw [hm]; exact Nat.mul_pos hp (by omega)
 have e1 : (x - 1#64).toNat = 2 ^ ctzW x * (2 * m) + (2 ^ ctzW x - 1) := by
  have hlt := x.isLt
  rw [BitVec.toNat_sub]
  simp only [BitVec.toNat_ofNat, Nat.reducePow, Nat.reduceMod, Nat.reduceSub]
  have e2 : x.toNat = 2 ^ ctzW x * (2 * m) + 2 ^ ctzW x := by rw [hm]; exact Nat.mul_succ _ _
  omega
 rw [BitVec.getLsbD_and]
 have ex : x.getLsbD i = x.toNat.testBit i := rfl
 have ey : (x - 1#64).getLsbD i = (x - 1#64).toNat.testBit i := rfl
 have a1 := Nat.testBit_two_pow_mul_add (2 * m + 1) (b := 0) (i := ctzW x) hp i
 rw [Nat.add_zero, ← hm] at a1
 have a2 := Nat.testBit_two_pow_mul_add (2 * m) (b := 2 ^ ctzW x - 1) (i := ctzW x) (by omega) i
 rw [ex, ey, e1, a1, a2]
 by_cases h1 : i < ctzW x
 ·simp [h1]
 ·rw [if_neg h1, if_neg h1, odd_bit, even_bit]
  by_cases h2 : i = ctzW x
  ·subst h2; simp
  ·have : i - ctzW x ≠ 0 := by omega
   simp [this, h2]
theorem mem_step {x : W64} (h : x ≠ 0) (k : Nat) : memW x k = (if ctzW x < k then (ctzW x : Int) :: memW (x &&& (x - 1#64)) k else []) ∧ (k ≤ ctzW x → memW (x &&& (x - 1#64)) k = []) := by
 induction k with
 | zero => exact ⟨rfl, fun _ => rfl⟩
 | succ k ih =>
  obtain ⟨h1, h2⟩ := ih
  have hb := ctz_bit h k
  have hc := clear_bit h k
  by_cases a : k < ctzW x
  ·rw [if_pos a] at hb
   rw [hb] at hc
   rw [mem_no hb, mem_no (by simpa using hc), h1, if_neg (by omega), if_neg (by omega)]
   exact ⟨rfl, fun _ => h2 (by omega)⟩
  ·rw [if_neg a] at hb
   by_cases c : k = ctzW x
   ·rw [if_pos c] at hb
    rw [hb, c] at hc
    rw [mem_yes hb, h1, if_neg (by omega), if_pos (by omega)]
    have := mem_no (x := x &&& (x - 1#64)) (k := k) (by rw [c]; simpa using hc)
    rw [this, h2 (by omega), c]
    exact ⟨rfl, fun h => by omega⟩
   ·have hc' : (x &&& (x - 1#64)).getLsbD k = x.getLsbD k := by rw [hc]; simp [c]
    refine ⟨?_, fun h => by omega⟩
    cases hx : x.getLsbD k with
    | true => rw [mem_yes hx, mem_yes (hc'.trans hx), h1, if_pos (by omega), if_pos (by omega)]; rfl
    | false => rw [mem_no hx, mem_no (hc'.trans hx), h1, if_pos (by omega), if_pos (by omega)]
theorem mem_cons {x : W64} (h : x ≠ 0) : memW x 64 = (ctzW x : Int) :: memW (x &&& (x - 1#64)) 64 := by
 obtain ⟨m, hm, hk⟩ := ctz_spec h
 have := (mem_step h 64).1
 rwa [if_pos hk] at this
section
variable {P : Program} {n : Nat} {K : Fr → World → Prop} {fr : Fr} {w : World}
end
end Go.Lx
/- Pairs of numbers below 64. Nothing of a program stands here. -/
namespace Go.Lx
open Go
abbrev Pr := Fin 64 × Fin 64
def iv (x : Fin 64) : Int := (x.val : Int)
def encPr (p : Pr) : List Value := [.int .i64 (iv p.1), .int .i64 (iv p.2)]
theorem encPr_ok : EncOk encPr 2 := ⟨by decide, fun _ => rfl, fun x u hu => by
 simp [encPr] at hu
 rcases hu with rfl | rfl <;> rfl⟩
def pz0 : Pr := (0, 0)
theorem iv_ge (x : Fin 64) : 0 ≤ iv x ∧ iv x < 64 := by unfold iv; have := x.isLt; omega
theorem iv_inj {x y : Fin 64} : iv x = iv y ↔ x = y := by
 unfold iv
 constructor
 ·intro h; exact Fin.ext (by omega)
 ·rintro rfl; rfl
theorem iv_beq (x y : Fin 64) : (iv x == iv y) = (x == y) := by
 rw [Bool.eq_iff_iff, beq_iff_eq, beq_iff_eq, iv_inj]
end Go.Lx
/- Pointers and nil; a checked type. Nothing of a program stands here. -/
namespace Go.Lx
open Go Go.RowKit
section
variable {P : Program} {fr : Fr} {w : World} {d : Option Nat} {t : TypeId} {ps : String} {af : Array Edge} {g : Option (Nat × Bool)} {x y z : Operand} {T K E U : TypeId}
theorem o_nilc {v : Addr} (hx : ev fr x = .pointer (some v)) : xop P fr w ⟨d, .nilCheck x, t, ps, af, g⟩ = .ok (.value (.pointer (some v))) w := by
 simp [xop, execOp, hx]
end
end Go.Lx
/- An order in memory: its block, its pairs, the sets above and below each element. Nothing of a program stands here. -/
namespace Go.Lx
open Go Go.RowKit
structure OV where
 n : Nat
 ap : Option Addr
 cp : Nat
 pairs : List Pr
 aa : Option Addr
 ca : Nat
 above : List SV
 ab : Option Addr
 cb : Nat
 below : List SV
 asp : Option Addr
 csp : Nat
 sorted : List Int
def encOd (o : OV) : List Value := [.int .i64 (o.n : Int), .slice o.ap o.pairs.length o.cp, .slice o.aa o.above.length o.ca, .slice o.ab o.below.length o.cb, .slice o.asp o.sorted.length o.csp]
def WdsAt (F : Nat → Prop) (w : World) (l : List SV) : Prop := ∀ s ∈ l, Sl encU 1 F w s.a s.c (wl s.x)
structure OdAt (F : Nat → Prop) (w : World) (p : Nat) (o : OV) : Prop where
 blk : F p
 at' : At w p 0 (encOd o)
 pr : Sl encPr 2 F w o.ap o.cp o.pairs
 ab : Sl encSV 1 F w o.aa o.ca o.above
 be : Sl encSV 1 F w o.ab o.cb o.below
 wa : WdsAt F w o.above
 wb : WdsAt F w o.below
 la : o.above.length = o.n
 lb : o.below.length = o.n
 hn : o.n ≤ 64
section
variable {F F' D : Nat → Prop} {γ : Prop} {w w' : World} {p : Nat} {o : OV}
theorem WdsAt.keep {l : List SV} (h : WdsAt F w l) (x : Bel γ D w w') (hd : ∀ b, b < w.heap.size → F b → ¬ D b) : WdsAt F w' l := fun s hs => (h s hs).keep x hd
theorem WdsAt.mono {l : List SV} (h : WdsAt F w l) (hd : ∀ b, b < w.heap.size → F b → F' b) : WdsAt F' w l := fun s hs => (h s hs).mono hd
theorem WdsAt.ext {l : List SV} (h : WdsAt F w l) (x : Ext γ w w') : WdsAt F w' l := fun s hs => (h s hs).ext x
theorem OdAt.lt (h : OdAt F w p o) : p < w.heap.size := h.at'.lt
theorem OdAt.keep (h : OdAt F w p o) (x : Bel γ D w w') (hd : ∀ b, b < w.heap.size → F b → ¬ D b) : OdAt F w' p o :=
 ⟨h.blk, h.at'.keep x (hd p h.lt h.blk), h.pr.keep x hd, h.ab.keep x hd, h.be.keep x hd, h.wa.keep x hd, h.wb.keep x hd, h.la, h.lb, h.hn⟩
theorem OdAt.ext (h : OdAt F w p o) (x : Ext γ w w') : OdAt F w' p o := h.keep x fun _ _ _ => id
theorem OdAt.mono (h : OdAt F w p o) (hd : ∀ b, b < w.heap.size → F b → F' b) : OdAt F' w p o :=
 ⟨hd p h.lt h.blk, h.at', h.pr.mono hd, h.ab.mono hd, h.be.mono hd, h.wa.mono hd, h.wb.mono hd, h.la, h.lb, h.hn⟩
end
@[irreducible] def belO (o : OV) (a : Int) : W64 := if 0 ≤ a ∧ a < (o.n : Int) then (o.below.getD a.toNat sz).x else 0
@[irreducible] def junO (o : OV) (r : Int) : W64 := if 1 ≤ r ∧ r ≤ 63 then belO o r ||| oneW r.toNat else 0
def HrAt (F : Nat → Prop) (w : World) (v : Value) : Option OV → Prop
 | none => v = .pointer none
 | some o => ∃ ph po, v = .pointer (some ⟨ph, 0, none⟩) ∧ F ph ∧ At w ph 0 [.pointer (some ⟨po, 0, none⟩)] ∧ OdAt F w po o
def junH (H : Option OV) (r : Int) : W64 := match H with
 | none => 0
 | some o => junO o r
def closH (H : Option OV) (l : List Int) : W64 := l.foldl (fun x r => x ||| junH H r) 0
section
variable {F F' D : Nat → Prop} {γ : Prop} {w w' : World} {v : Value} {H : Option OV}
theorem HrAt.keep (h : HrAt F w v H) (x : Bel γ D w w') (hd : ∀ b, b < w.heap.size → F b → ¬ D b) : HrAt F w' v H := by
 cases H with
 | none => exact h
 | some o =>
  obtain ⟨ph, po, h1, h2, h3, h4⟩ := h
  exact ⟨ph, po, h1, h2, h3.keep x (hd ph h3.lt h2), h4.keep x hd⟩
theorem HrAt.ext (h : HrAt F w v H) (x : Ext γ w w') : HrAt F w' v H := h.keep x fun _ _ _ => id
theorem HrAt.mono (h : HrAt F w v H) (hd : ∀ b, b < w.heap.size → F b → F' b) : HrAt F' w v H := by
 cases H with
 | none => exact h
 | some o =>
  obtain ⟨ph, po, h1, h2, h3, h4⟩ := h
  exact ⟨ph, po, h1, hd ph h3.lt h2, h3, h4.mono hd⟩
end
end Go.Lx
/- The order of an acyclic relation: what the lists hold while elements are taken one after the other. No program in sight. -/
namespace Go.Lx
open Go
theorem nodup_le {α : Type} [BEq α] [LawfulBEq α] : ∀ {l m : List α}, l.Nodup → (∀ x ∈ l, x ∈ m) → l.length ≤ m.length
 | [], m, _, _ => Nat.zero_le _
 | x :: l, m, h, hs => by
  obtain ⟨h1, h2⟩ := List.nodup_cons.1 h
  have hx := hs x (by simp)
  have := nodup_le (m := m.erase x) h2 (fun y hy => (List.mem_erase_of_ne (fun e : y = x => h1 (by rw [← e]; exact hy))).2 (hs y (by simp [hy])))
  rw [List.length_erase_of_mem hx] at this
  have := List.length_pos_of_mem hx
  simp; omega
def cOut (l : List Pr) (srt : List (Fin 64)) (i : Nat) : Nat := l.countP fun x => x.2.val == i && !srt.contains x.1
theorem takeS {l : List Pr} {k : Nat} (h : k < l.length) : l.take (k + 1) = l.take k ++ [l.getD k pz0] := by
 rw [List.take_add_one, List.getElem?_eq_getElem h]
 simp [List.getD, List.getElem?_eq_getElem h]
def lfA (ps : List Pr) (srt : List (Fin 64)) (i : Nat) : Int := if srt.any (fun j => j.val == i) then -1 else (cOut ps srt i : Int)
structure Topo (ps : List Pr) (srt : List (Fin 64)) : Prop where
 nd : srt.Nodup
 up : ∀ i b, srt[i]? = some b → ∀ x ∈ ps, x.2 = b → ∃ j : Nat, j < i ∧ srt[j]? = some x.1
theorem Topo.nil (ps : List Pr) : Topo ps [] := ⟨List.nodup_nil, fun i b h => by simp at h⟩
theorem any_val {srt : List (Fin 64)} {k : Fin 64} : (srt.any fun j => j.val == k.val) = srt.contains k := by
 rw [Bool.eq_iff_iff]
 simp only [List.any_eq_true, List.contains_iff_mem, beq_iff_eq]
 exact ⟨fun ⟨j, h1, h2⟩ => by rw [← Fin.ext h2]; exact h1, fun h => ⟨k, h, rfl⟩⟩
theorem zero_of {ps : List Pr} {srt : List (Fin 64)} {k : Fin 64} (h : lfA ps srt k.val = 0) : k ∉ srt ∧ ∀ x ∈ ps, x.2 = k → x.1 ∈ srt := by
 unfold lfA at h
 rw [any_val] at h
 cases hc : srt.contains k with
 | true => rw [hc] at h; simp at h
 | false =>
  rw [hc] at h
  simp only [Bool.false_eq_true, if_false] at h
  refine ⟨by simpa using hc, fun x hx e => ?_⟩
  have h0 : cOut ps srt k.val = 0 := by omega
  unfold cOut at h0
  rw [List.countP_eq_zero] at h0
  have := h0 x hx
  rw [e] at this
  simpa using this
theorem Topo.snoc {ps : List Pr} {srt : List (Fin 64)} {k : Fin 64} (h : Topo ps srt) (hz : lfA ps srt k.val = 0) : Topo ps (srt ++ [k]) := by
 obtain ⟨h1, h2⟩ := zero_of hz
 refine ⟨?_, ?_⟩
 ·rw [List.nodup_append]
  refine ⟨h.nd, by simp, fun a ha b hb => ?_⟩
  simp at hb; subst hb
  exact fun e => h1 (e ▸ ha)
 ·intro i b hi x hx e
  by_cases hl : i < srt.length
  ·rw [List.getElem?_append_left hl] at hi
   obtain ⟨j, hj, hs⟩ := h.up i b hi x hx e
   exact ⟨j, hj, by rw [List.getElem?_append_left (by omega)]; exact hs⟩
  ·have hi0 : i = srt.length := by
    have := (List.getElem?_eq_some_iff.1 hi).1
    simp at this; omega
   subst hi0
   simp at hi
   obtain ⟨j, hj, hs⟩ := List.mem_iff_getElem.1 (h2 x hx (e.trans hi.symm))
   exact ⟨j, hj, by rw [List.getElem?_append_left hj, List.getElem?_eq_getElem hj, hs]⟩
theorem Topo.all {ps : List Pr} {srt : List (Fin 64)} (h : Topo ps srt) (hl : 64 ≤ srt.length) : ∀ k, k ∈ srt := by
 intro k
 apply Classical.byContradiction
 intro hk
 have := nodup_le (List.nodup_cons.2 ⟨hk, h.nd⟩) (fun x _ => List.mem_finRange x)
 simp at this; omega
end Go.Lx
/- What lies above and below each element of an acyclic relation, element after element in its order. No program in sight. -/
namespace Go.Lx
open Go
inductive Rch (ps : List Pr) : Fin 64 → Fin 64 → Prop
 | one {a b : Fin 64} : (a, b) ∈ ps → Rch ps a b
 | snoc {a c b : Fin 64} : Rch ps a c → (c, b) ∈ ps → Rch ps a b
theorem rch_last {ps : List Pr} {c b : Fin 64} : Rch ps c b ↔ ∃ a, (a, b) ∈ ps ∧ (c = a ∨ Rch ps c a) := by
 constructor
 ·intro h
  cases h with
  | one h => exact ⟨c, h, .inl rfl⟩
  | snoc h1 h2 => exact ⟨_, h2, .inr h1⟩
 ·rintro ⟨a, h, rfl | h2⟩
  ·exact .one h
  ·exact .snoc h2 h
theorem rch_rank {ps : List Pr} {ρ : Fin 64 → Nat} (hρ : ∀ x ∈ ps, ρ x.1 < ρ x.2) {a b : Fin 64} (h : Rch ps a b) : ρ a < ρ b := by
 induction h with
 | one h => exact hρ _ h
 | snoc _ h2 ih => exact Nat.lt_trans ih (hρ _ h2)
def dlO (ps : List Pr) (b : Fin 64) : List (Fin 64) := (ps.filter fun x => x.2 == b).map (·.1)
theorem mem_dl {ps : List Pr} {a b : Fin 64} : a ∈ dlO ps b ↔ (a, b) ∈ ps := by
 simp only [dlO, List.mem_map, List.mem_filter, beq_iff_eq]
 constructor
 ·rintro ⟨x, ⟨h1, h2⟩, h3⟩
  have : x = (a, b) := Prod.ext h3 h2
  exact this ▸ h1
 ·exact fun h => ⟨(a, b), ⟨h, rfl⟩, rfl⟩
def xsO (la : List SV) (i : Nat) : W64 := (la.getD i sz).x
def AbOk (ps : List Pr) (srt : List (Fin 64)) (j : Nat) (f : Nat → W64) : Prop := ∀ b c : Fin 64, (f b.val).getLsbD c.val = true ↔ b ∈ srt.take j ∧ Rch ps c b
def BeOk (ps : List Pr) (srt : List (Fin 64)) (j : Nat) (f : Nat → W64) : Prop := ∀ a c : Fin 64, (f a.val).getLsbD c.val = true ↔ c ∈ srt.take j ∧ Rch ps a c
theorem AbOk.start {ps : List Pr} {srt : List (Fin 64)} {f : Nat → W64} (h : ∀ i, i < 64 → f i = 0) : AbOk ps srt 0 f := fun b c => by
 rw [h _ b.isLt]; simp
theorem BeOk.start {ps : List Pr} {srt : List (Fin 64)} {f : Nat → W64} (h : ∀ i, i < 64 → f i = 0) : BeOk ps srt 0 f := fun b c => by
 rw [h _ b.isLt]; simp
def upA (ps : List Pr) (f : Nat → W64) (b : Fin 64) (m : Nat) : W64 := ((dlO ps b).take m).foldl (fun x a => (x ||| f a.val) ||| oneW a.val) (f b.val)
theorem fold_bit (f : Nat → W64) (c : Fin 64) : ∀ (l : List (Fin 64)) (x : W64), (l.foldl (fun x a => (x ||| f a.val) ||| oneW a.val) x).getLsbD c.val = true ↔ x.getLsbD c.val = true ∨ ∃ a ∈ l, c = a ∨ (f a.val).getLsbD c.val = true
 | [], x => by simp
 | a :: l, x => by
  rw [List.foldl_cons, fold_bit f c l]
  have e : (oneW a.val).getLsbD c.val = decide (c = a) := by
   rw [oneW_get _ _ a.isLt]
   by_cases h : c = a
   ·subst h; simp
   ·have : c.val ≠ a.val := fun e => h (Fin.ext e)
    simp [h, this]
  simp only [BitVec.getLsbD_or, e, Bool.or_eq_true, decide_eq_true_eq, List.mem_cons]
  constructor
  ·rintro (((h | h) | h) | ⟨a', h1, h2⟩)
   ·exact .inl h
   ·exact .inr ⟨a, .inl rfl, .inr h⟩
   ·exact .inr ⟨a, .inl rfl, .inl h⟩
   ·exact .inr ⟨a', .inr h1, h2⟩
  ·rintro (h | ⟨a', rfl | h1, h2⟩)
   ·exact .inl (.inl (.inl h))
   ·rcases h2 with h2 | h2
    ·exact .inl (.inr h2)
    ·exact .inl (.inl (.inr h2))
   ·exact .inr ⟨a', h1, h2⟩
theorem take_snoc {α : Type} {l : List α} {j : Nat} {b : α} (h : l[j]? = some b) : l.take (j + 1) = l.take j ++ [b] := by rw [List.take_add_one, h]; rfl
theorem not_in_take {l : List (Fin 64)} (hn : l.Nodup) {j : Nat} {b : Fin 64} (h : l[j]? = some b) : b ∉ l.take j := by
 intro hm
 have h2 : (l.take (j + 1)).Nodup := hn.sublist (List.take_sublist _ _)
 rw [take_snoc h, List.nodup_append] at h2
 exact h2.2.2 b hm b (by simp) rfl
theorem AbOk.next {ps : List Pr} {srt : List (Fin 64)} {j : Nat} {b : Fin 64} {f g : Nat → W64} (h : AbOk ps srt j f) (ht : Topo ps srt) (hb : srt[j]? = some b) (hg : ∀ i, i < 64 → g i = if i = b.val then upA ps f b (dlO ps b).length else f i) : AbOk ps srt (j + 1) g := by
 intro b' c
 have hnb := not_in_take ht.nd hb
 rw [hg _ b'.isLt, take_snoc hb]
 by_cases e : b' = b
 ·subst e
  rw [if_pos rfl, upA, List.take_length, fold_bit]
  constructor
  ·rintro (h1 | ⟨a, ha, h1⟩)
   ·exact absurd ((h b' c).1 h1).1 hnb
   ·refine ⟨by simp, rch_last.2 ⟨a, mem_dl.1 ha, ?_⟩⟩
    rcases h1 with h1 | h1
    ·exact .inl h1
    ·exact .inr ((h a c).1 h1).2
  ·rintro ⟨_, h1⟩
   obtain ⟨a, ha, h2⟩ := rch_last.1 h1
   refine .inr ⟨a, mem_dl.2 ha, ?_⟩
   rcases h2 with h2 | h2
   ·exact .inl h2
   ·obtain ⟨i, hi, hs⟩ := ht.up j b' hb (a, b') ha rfl
    exact .inr ((h a c).2 ⟨by rw [List.mem_iff_getElem?]; exact ⟨i, by rw [List.getElem?_take, if_pos hi]; exact hs⟩, h2⟩)
 ·have : ¬ b'.val = b.val := fun e' => e (Fin.ext e')
  rw [if_neg this, h b' c]
  simp [e]
theorem mem_val {x : W64} {t : Fin 64} : ((t.val : Int) ∈ memW x 64) ↔ x.getLsbD t.val = true := by
 unfold memW
 simp only [List.mem_map, List.mem_filter, List.mem_range]
 constructor
 ·rintro ⟨i, ⟨_, h2⟩, h3⟩
  have : i = t.val := by omega
  exact this ▸ h2
 ·exact fun h => ⟨t.val, ⟨t.isLt, h⟩, rfl⟩
theorem BeOk.next {ps : List Pr} {srt : List (Fin 64)} {j : Nat} {b : Fin 64} {f g k : Nat → W64} (h : BeOk ps srt j f) (ht : Topo ps srt) (hb : srt[j]? = some b) (ha : AbOk ps srt (j + 1) k) (hg : ∀ i, i < 64 → g i = if (i : Int) ∈ memW (k b.val) 64 then f i ||| oneW b.val else f i) : BeOk ps srt (j + 1) g := by
 intro a c
 have hin : b ∈ srt.take (j + 1) := by rw [take_snoc hb]; simp
 have hm : ((a.val : Int) ∈ memW (k b.val) 64) ↔ Rch ps a b := by
  rw [mem_val, ha b a]; exact ⟨fun h => h.2, fun h => ⟨hin, h⟩⟩
 have e : (oneW b.val).getLsbD c.val = decide (c = b) := by
  rw [oneW_get _ _ b.isLt]
  by_cases h : c = b
  ·subst h; simp
  ·have : c.val ≠ b.val := fun e => h (Fin.ext e)
   simp [h, this]
 rw [hg _ a.isLt, take_snoc hb]
 by_cases hr : Rch ps a b
 ·rw [if_pos (hm.2 hr)]
  simp only [BitVec.getLsbD_or, e, Bool.or_eq_true, decide_eq_true_eq, h a c, List.mem_append, List.mem_singleton]
  constructor
  ·rintro (⟨h1, h2⟩ | rfl)
   ·exact ⟨.inl h1, h2⟩
   ·exact ⟨.inr rfl, hr⟩
  ·rintro ⟨h1 | h1, h2⟩
   ·exact .inl ⟨h1, h2⟩
   ·exact .inr h1
 ·rw [if_neg (fun h => hr (hm.1 h)), h a c]
  simp only [List.mem_append, List.mem_singleton]
  constructor
  ·rintro ⟨h1, h2⟩; exact ⟨.inl h1, h2⟩
  ·rintro ⟨h1 | rfl, h2⟩
   ·exact ⟨h1, h2⟩
   ·exact absurd h2 hr
def BelS (ps : List Pr) (f : Nat → W64) : Prop := ∀ a c : Fin 64, (f a.val).getLsbD c.val = true ↔ Rch ps a c
theorem BeOk.done {ps : List Pr} {srt : List (Fin 64)} {f : Nat → W64} (h : BeOk ps srt 64 f) (ht : Topo ps srt) (hl : srt.length = 64) : BelS ps f := fun a c => by
 rw [h a c, List.take_of_length_le (by omega)]
 exact ⟨fun h => h.2, fun h => ⟨ht.all (by omega) c, h⟩⟩
def AboS (ps : List Pr) (f : Nat → W64) : Prop := ∀ b c : Fin 64, (f b.val).getLsbD c.val = true ↔ Rch ps c b
theorem AbOk.done {ps : List Pr} {srt : List (Fin 64)} {f : Nat → W64} (h : AbOk ps srt 64 f) (ht : Topo ps srt) (hl : srt.length = 64) : AboS ps f := fun b c => by
 rw [h b c, List.take_of_length_le (by omega)]
 exact ⟨fun h => h.2, fun h => ⟨ht.all (by omega) b, h⟩⟩
end Go.Lx
