/- Several texts in one file. -/
import Derived.Test.YtdnkjdmfnmdpdaaGreatDoorPure11g
import Derived.Lib.TrailingZeros
import Derived.Test.YtdnkjdmfnmdpdaaGreatDoorShelf
import Derived.Test.YtdnkjdmfnmdpdaaGreatDoorPure11
import Derived.Test.YtdnkjdmfnmdpdaaGreatDoorOwn
import Derived.Laws.Pointers
import Derived.Test.YtdnkjdmfnmdpdaaGreatDoorOwn3
set_option linter.unusedSimpArgs false
set_option linter.unusedVariables false
set_option linter.unnecessarySimpa false
/- The members of a word, from the least on; the library's count of trailing zeros; a call of yield. -/
namespace Go.Lx
open Go Go.RowKit
def ctzW (x : W64) : Nat := Lib.ctz 64 x.toNat
theorem ctz_spec {x : W64} (h : x ≠ 0) : ∃ m, x.toNat = 2 ^ ctzW x * (2 * m + 1) ∧ ctzW x < 64 := by
 have h0 : x.toNat ≠ 0 := fun e => h (by apply BitVec.eq_of_toNat_eq; simpa using e)
 have := Lib.ctzFrom_spec 64 x.toNat (by omega) x.isLt
 have e : ctzW x = Lib.ctzFrom 64 x.toNat := by simp [ctzW, Lib.ctz, h0]
 rw [e]; exact this
theorem odd_bit (m i : Nat) : (2 * m + 1).testBit i = if i = 0 then true else m.testBit (i - 1) := by
 cases i with
 | zero => simp [Nat.testBit_zero]
 | succ i => simp [Nat.testBit_succ]; congr 1; omega
theorem even_bit (m i : Nat) : (2 * m).testBit i = if i = 0 then false else m.testBit (i - 1) := by
 cases i with
 | zero => simp [Nat.testBit_zero]
 | succ i => simp [Nat.testBit_succ]
theorem ctz_bit {x : W64} (h : x ≠ 0) (i : Nat) : x.getLsbD i = if i < ctzW x then false else if i = ctzW x then true else x.getLsbD i := by
 obtain ⟨m, hm, hk⟩ := ctz_spec h
 have e : x.getLsbD i = x.toNat.testBit i := rfl
 by_cases h1 : i < ctzW x
 ·rw [if_pos h1, e, hm]
  have := Nat.testBit_two_pow_mul_add (2 * m + 1) (b := 0) (i := ctzW x) (by exact Nat.two_pow_pos _) i
  rw [Nat.add_zero] at this
  rw [this, if_pos h1]; simp
 ·rw [if_neg h1]
  by_cases h2 : i = ctzW x
  ·rw [if_pos h2, e, hm]
   have := Nat.testBit_two_pow_mul_add (2 * m + 1) (b := 0) (i := ctzW x) (by exact Nat.two_pow_pos _) i
   rw [Nat.add_zero] at this
   rw [this, if_neg h1, odd_bit, if_pos (by omega)]
  ·rw [if_neg h2]
theorem clear_bit {x : W64} (h : x ≠ 0) (i : Nat) : (x &&& (x - 1#64)).getLsbD i = (x.getLsbD i && !decide (i = ctzW x)) := by
 obtain ⟨m, hm, hk⟩ := ctz_spec h
 have hp : 0 < 2 ^ ctzW x := Nat.two_pow_pos _
 have h0 : 1 ≤ x.toNat := by rw [hm]; exact Nat.mul_pos hp (by omega)
 have e1 : (x - 1#64).toNat = 2 ^ ctzW x * (2 * m) + (2 ^ ctzW x - 1) := by
  have hlt := x.isLt
  rw [BitVec.toNat_sub]
  simp only [BitVec.toNat_ofNat, Nat.reducePow, Nat.reduceMod, Nat.reduceSub]
  have e2 : x.toNat = 2 ^ ctzW x * (2 * m) + 2 ^ ctzW x := by rw [hm]; exact Nat.mul_succ _ _
  omega
 rw [BitVec.getLsbD_and]
 have ex : x.getLsbD i = x.toNat.testBit i := rfl
 have ey : (x - 1#64).getLsbD i = (x - 1#64).toNat.testBit i := rfl
 have a1 := Nat.testBit_two_pow_mul_add (2 * m + 1) (b := 0) (i := ctzW x) hp i
 rw [Nat.add_zero, ← hm] at a1
 have a2 := Nat.testBit_two_pow_mul_add (2 * m) (b := 2 ^ ctzW x - 1) (i := ctzW x) (by omega) i
 rw [ex, ey, e1, a1, a2]
 by_cases h1 : i < ctzW x
 ·simp [h1]
 ·rw [if_neg h1, if_neg h1, odd_bit, even_bit]
  by_cases h2 : i = ctzW x
  ·subst h2; simp
  ·have : i - ctzW x ≠ 0 := by omega
   simp [this, h2]
theorem mem_step {x : W64} (h : x ≠ 0) (k : Nat) : memW x k = (if ctzW x < k then (ctzW x : Int) :: memW (x &&& (x - 1#64)) k else []) ∧ (k ≤ ctzW x → memW (x &&& (x - 1#64)) k = []) := by
 induction k with
 | zero => exact ⟨rfl, fun _ => rfl⟩
 | succ k ih =>
  obtain ⟨h1, h2⟩ := ih
  have hb := ctz_bit h k
  have hc := clear_bit h k
  by_cases a : k < ctzW x
  ·rw [if_pos a] at hb
   rw [hb] at hc
   rw [mem_no hb, mem_no (by simpa using hc), h1, if_neg (by omega), if_neg (by omega)]
   exact ⟨rfl, fun _ => h2 (by omega)⟩
  ·rw [if_neg a] at hb
   by_cases c : k = ctzW x
   ·rw [if_pos c] at hb
    rw [hb, c] at hc
    rw [mem_yes hb, h1, if_neg (by omega), if_pos (by omega)]
    have := mem_no (x := x &&& (x - 1#64)) (k := k) (by rw [c]; simpa using hc)
    rw [this, h2 (by omega), c]
    exact ⟨rfl, fun h => by omega⟩
   ·have hc' : (x &&& (x - 1#64)).getLsbD k = x.getLsbD k := by rw [hc]; simp [c]
    refine ⟨?_, fun h => by omega⟩
    cases hx : x.getLsbD k with
    | true => rw [mem_yes hx, mem_yes (hc'.trans hx), h1, if_pos (by omega), if_pos (by omega)]; rfl
    | false => rw [mem_no hx, mem_no (hc'.trans hx), h1, if_pos (by omega), if_pos (by omega)]
theorem mem_cons {x : W64} (h : x ≠ 0) : memW x 64 = (ctzW x : Int) :: memW (x &&& (x - 1#64)) 64 := by
 obtain ⟨m, hm, hk⟩ := ctz_spec h
 have := (mem_step h 64).1
 rwa [if_pos hk] at this
abbrev tabL : List Value := Lib.deBruijn64tab.map fun (n : Nat) => Value.int .u8 (n : Int)
abbrev Tb (w : World) : Prop := At w 2 0 tabL
theorem Tb.at {w : World} (h : Tb w) : Proofs.TabAt 2 Lib.deBruijn64tab w := by
 intro j hj
 have := h.get (v := .int .u8 ((Lib.deBruijn64tab.getD j 0 : Nat) : Int)) j (by
  rw [tabL, List.getElem?_map, List.getElem?_eq_getElem hj]
  simp [List.getD, List.getElem?_eq_getElem hj])
 rwa [Nat.zero_add] at this
section
variable {P : Program} {n : Nat} {K : Fr → World → Prop} {fr : Fr} {w : World}
end
end Go.Lx
/- Pairs of numbers below 64. Nothing of a program stands here. -/
namespace Go.Lx
open Go
abbrev Pr := Fin 64 × Fin 64
def iv (x : Fin 64) : Int := (x.val : Int)
def encPr (p : Pr) : List Value := [.int .i64 (iv p.1), .int .i64 (iv p.2)]
theorem JF : EncOk encPr 2 := ⟨by decide, fun _ => rfl, fun x u hu => by
 simp [encPr] at hu
 rcases hu with rfl | rfl <;> rfl⟩
def pz0 : Pr := (0, 0)
theorem iv_ge (x : Fin 64) : 0 ≤ iv x ∧ iv x < 64 := by unfold iv; have := x.isLt; omega
theorem iv_inj {x y : Fin 64} : iv x = iv y ↔ x = y := by
 unfold iv
 constructor
 ·intro h; exact Fin.ext (by omega)
 ·rintro rfl; rfl
theorem iv_beq (x y : Fin 64) : (iv x == iv y) = (x == y) := by
 rw [Bool.eq_iff_iff, beq_iff_eq, beq_iff_eq, iv_inj]
end Go.Lx
/- Pointers and nil; a checked type. Nothing of a program stands here. -/
namespace Go.Lx
open Go Go.RowKit
section
variable {P : Program} {fr : Fr} {w : World} {d : Option Nat} {t : TypeId} {ps : String} {af : Array Edge} {g : Option (Nat × Bool)} {x y z : Operand} {T K E U : TypeId}
theorem JI {v : Addr} (hx : ev fr x = .pointer (some v)) : xop P fr w ⟨d, .nilCheck x, t, ps, af, g⟩ = .ok (.value (.pointer (some v))) w := by
 simp [xop, execOp, hx]
theorem pointee_of {tp : TypeId} (hT : P.underlying T = some (.pointer tp)) : P.underlying T = some (.pointer (P.pointee T)) := by
 have : P.pointee T = tp := by unfold Program.pointee; rw [hT]
 rw [this]; exact hT
theorem o_peq {a : Option Addr} {tp : TypeId} (hT : P.underlying T = some (.pointer tp)) (hx : ev fr x = .pointer a) (hy : ev fr y = .pointer none) : xop P fr w ⟨d, .binOp .eql T x y U, t, ps, af, g⟩ = .ok (.value (.bool a.isNone)) w := by
 have := run_eql_pointer_nil (P := P) (w := w) T a (pointee_of hT)
 simp only [xop, execOp, hx, hy, eqGuard]
 simp [this]
theorem o_pne {a : Option Addr} {tp : TypeId} (hT : P.underlying T = some (.pointer tp)) (hx : ev fr x = .pointer a) (hy : ev fr y = .pointer none) : xop P fr w ⟨d, .binOp .neq T x y U, t, ps, af, g⟩ = .ok (.value (.bool !a.isNone)) w := by
 have := run_neq_pointer_nil (P := P) (w := w) T a (pointee_of hT)
 simp only [xop, execOp, hx, hy, eqGuard]
 simp [this]
end
end Go.Lx
/- An order in memory: its block, its pairs, the sets above and below each element. Nothing of a program stands here. -/
namespace Go.Lx
open Go Go.RowKit
structure OV where
 n : Nat
 ap : Option Addr
 cp : Nat
 pairs : List Pr
 aa : Option Addr
 ca : Nat
 above : List SV
 ab : Option Addr
 cb : Nat
 below : List SV
 asp : Option Addr
 csp : Nat
 sorted : List Int
def encOd (o : OV) : List Value := [.int .i64 (o.n : Int), .slice o.ap o.pairs.length o.cp, .slice o.aa o.above.length o.ca, .slice o.ab o.below.length o.cb, .slice o.asp o.sorted.length o.csp]
def WdsAt (F : Nat → Prop) (w : World) (l : List SV) : Prop := ∀ s ∈ l, Sl encU 1 F w s.a s.c (wl s.x)
structure OdAt (F : Nat → Prop) (w : World) (p : Nat) (o : OV) : Prop where
 blk : F p
 at' : At w p 0 (encOd o)
 pr : Sl encPr 2 F w o.ap o.cp o.pairs
 ab : Sl encSV 1 F w o.aa o.ca o.above
 be : Sl encSV 1 F w o.ab o.cb o.below
 wa : WdsAt F w o.above
 wb : WdsAt F w o.below
 la : o.above.length = o.n
 lb : o.below.length = o.n
 hn : o.n ≤ 64
section
variable {F F' D : Nat → Prop} {γ : Prop} {w w' : World} {p : Nat} {o : OV}
theorem WdsAt.keep {l : List SV} (h : WdsAt F w l) (x : Bel γ D w w') (hd : ∀ b, b < w.heap.size → F b → ¬ D b) : WdsAt F w' l := fun s hs => (h s hs).keep x hd
theorem WdsAt.mono {l : List SV} (h : WdsAt F w l) (hd : ∀ b, b < w.heap.size → F b → F' b) : WdsAt F' w l := fun s hs => (h s hs).mono hd
theorem WdsAt.ext {l : List SV} (h : WdsAt F w l) (x : Ext γ w w') : WdsAt F w' l := fun s hs => (h s hs).ext x
theorem OdAt.lt (h : OdAt F w p o) : p < w.heap.size := h.at'.lt
theorem OdAt.keep (h : OdAt F w p o) (x : Bel γ D w w') (hd : ∀ b, b < w.heap.size → F b → ¬ D b) : OdAt F w' p o :=
 ⟨h.blk, h.at'.keep x (hd p h.lt h.blk), h.pr.keep x hd, h.ab.keep x hd, h.be.keep x hd, h.wa.keep x hd, h.wb.keep x hd, h.la, h.lb, h.hn⟩
theorem OdAt.ext (h : OdAt F w p o) (x : Ext γ w w') : OdAt F w' p o := h.keep x fun _ _ _ => id
theorem OdAt.mono (h : OdAt F w p o) (hd : ∀ b, b < w.heap.size → F b → F' b) : OdAt F' w p o :=
 ⟨hd p h.lt h.blk, h.at', h.pr.mono hd, h.ab.mono hd, h.be.mono hd, h.wa.mono hd, h.wb.mono hd, h.la, h.lb, h.hn⟩
end
@[irreducible] def belO (o : OV) (a : Int) : W64 := if 0 ≤ a ∧ a < (o.n : Int) then (o.below.getD a.toNat sz).x else 0
@[irreducible] def junO (o : OV) (r : Int) : W64 := if 1 ≤ r ∧ r ≤ 63 then belO o r ||| oneW r.toNat else 0
def HrAt (F : Nat → Prop) (w : World) (v : Value) : Option OV → Prop
 | none => v = .pointer none
 | some o => ∃ ph po, v = .pointer (some ⟨ph, 0, none⟩) ∧ F ph ∧ At w ph 0 [.pointer (some ⟨po, 0, none⟩)] ∧ OdAt F w po o
def junH (H : Option OV) (r : Int) : W64 := match H with
 | none => 0
 | some o => junO o r
def closH (H : Option OV) (l : List Int) : W64 := l.foldl (fun x r => x ||| junH H r) 0
section
variable {F F' D : Nat → Prop} {γ : Prop} {w w' : World} {v : Value} {H : Option OV}
theorem HrAt.keep (h : HrAt F w v H) (x : Bel γ D w w') (hd : ∀ b, b < w.heap.size → F b → ¬ D b) : HrAt F w' v H := by
 cases H with
 | none => exact h
 | some o =>
  obtain ⟨ph, po, h1, h2, h3, h4⟩ := h
  exact ⟨ph, po, h1, h2, h3.keep x (hd ph h3.lt h2), h4.keep x hd⟩
theorem HrAt.ext (h : HrAt F w v H) (x : Ext γ w w') : HrAt F w' v H := h.keep x fun _ _ _ => id
theorem HrAt.mono (h : HrAt F w v H) (hd : ∀ b, b < w.heap.size → F b → F' b) : HrAt F' w v H := by
 cases H with
 | none => exact h
 | some o =>
  obtain ⟨ph, po, h1, h2, h3, h4⟩ := h
  exact ⟨ph, po, h1, hd ph h3.lt h2, h3, h4.mono hd⟩
end
end Go.Lx
/- The order of an acyclic relation: what the lists hold while elements are taken one after the other. No program in sight. -/
namespace Go.Lx
open Go
theorem nodup_le {α : Type} [BEq α] [LawfulBEq α] : ∀ {l m : List α}, l.Nodup → (∀ x ∈ l, x ∈ m) → l.length ≤ m.length
 | [], m, _, _ => Nat.zero_le _
 | x :: l, m, h, hs => by
  obtain ⟨h1, h2⟩ := List.nodup_cons.1 h
  have hx := hs x (by simp)
  have := nodup_le (m := m.erase x) h2 (fun y hy => (List.mem_erase_of_ne (fun e : y = x => h1 (by rw [← e]; exact hy))).2 (hs y (by simp [hy])))
  rw [List.length_erase_of_mem hx] at this
  have := List.length_pos_of_mem hx
  simp; omega
def cOut (l : List Pr) (srt : List (Fin 64)) (i : Nat) : Nat := l.countP fun x => x.2.val == i && !srt.contains x.1
theorem takeS {l : List Pr} {k : Nat} (h : k < l.length) : l.take (k + 1) = l.take k ++ [l.getD k pz0] := by
 rw [List.take_add_one, List.getElem?_eq_getElem h]
 simp [List.getD, List.getElem?_eq_getElem h]
def lfA (ps : List Pr) (srt : List (Fin 64)) (i : Nat) : Int := if srt.any (fun j => j.val == i) then -1 else (cOut ps srt i : Int)
structure Topo (ps : List Pr) (srt : List (Fin 64)) : Prop where
 nd : srt.Nodup
 up : ∀ i b, srt[i]? = some b → ∀ x ∈ ps, x.2 = b → ∃ j : Nat, j < i ∧ srt[j]? = some x.1
theorem Topo.nil (ps : List Pr) : Topo ps [] := ⟨List.nodup_nil, fun i b h => by simp at h⟩
theorem any_val {srt : List (Fin 64)} {k : Fin 64} : (srt.any fun j => j.val == k.val) = srt.contains k := by
 rw [Bool.eq_iff_iff]
 simp only [List.any_eq_true, List.contains_iff_mem, beq_iff_eq]
 exact ⟨fun ⟨j, h1, h2⟩ => by rw [← Fin.ext h2]; exact h1, fun h => ⟨k, h, rfl⟩⟩
theorem zero_of {ps : List Pr} {srt : List (Fin 64)} {k : Fin 64} (h : lfA ps srt k.val = 0) : k ∉ srt ∧ ∀ x ∈ ps, x.2 = k → x.1 ∈ srt := by
 unfold lfA at h
 rw [any_val] at h
 cases hc : srt.contains k with
 | true => rw [hc] at h; simp at h
 | false =>
  rw [hc] at h
  simp only [Bool.false_eq_true, if_false] at h
  refine ⟨by simpa using hc, fun x hx e => ?_⟩
  have h0 : cOut ps srt k.val = 0 := by omega
  unfold cOut at h0
  rw [List.countP_eq_zero] at h0
  have := h0 x hx
  rw [e] at this
  simpa using this
theorem Topo.snoc {ps : List Pr} {srt : List (Fin 64)} {k : Fin 64} (h : Topo ps srt) (hz : lfA ps srt k.val = 0) : Topo ps (srt ++ [k]) := by
 obtain ⟨h1, h2⟩ := zero_of hz
 refine ⟨?_, ?_⟩
 ·rw [List.nodup_append]
  refine ⟨h.nd, by simp, fun a ha b hb => ?_⟩
  simp at hb; subst hb
  exact fun e => h1 (e ▸ ha)
 ·intro i b hi x hx e
  by_cases hl : i < srt.length
  ·rw [List.getElem?_append_left hl] at hi
   obtain ⟨j, hj, hs⟩ := h.up i b hi x hx e
   exact ⟨j, hj, by rw [List.getElem?_append_left (by omega)]; exact hs⟩
  ·have hi0 : i = srt.length := by
    have := (List.getElem?_eq_some_iff.1 hi).1
    simp at this; omega
   subst hi0
   simp at hi
   obtain ⟨j, hj, hs⟩ := List.mem_iff_getElem.1 (h2 x hx (e.trans hi.symm))
   exact ⟨j, hj, by rw [List.getElem?_append_left hj, List.getElem?_eq_getElem hj, hs]⟩
theorem Topo.all {ps : List Pr} {srt : List (Fin 64)} (h : Topo ps srt) (hl : 64 ≤ srt.length) : ∀ k, k ∈ srt := by
 intro k
 apply Classical.byContradiction
 intro hk
 have := nodup_le (List.nodup_cons.2 ⟨hk, h.nd⟩) (fun x _ => List.mem_finRange x)
 simp at this; omega
end Go.Lx
/- What lies above and below each element of an acyclic relation, element after element in its order. No program in sight. -/
namespace Go.Lx
open Go
inductive Rch (ps : List Pr) : Fin 64 → Fin 64 → Prop
 | one {a b : Fin 64} : (a, b) ∈ ps → Rch ps a b
 | snoc {a c b : Fin 64} : Rch ps a c → (c, b) ∈ ps → Rch ps a b
theorem rch_last {ps : List Pr} {c b : Fin 64} : Rch ps c b ↔ ∃ a, (a, b) ∈ ps ∧ (c = a ∨ Rch ps c a) := by
 constructor
 ·intro h
  cases h with
  | one h => exact ⟨c, h, .inl rfl⟩
  | snoc h1 h2 => exact ⟨_, h2, .inr h1⟩
 ·rintro ⟨a, h, rfl | h2⟩
  ·exact .one h
  ·exact .snoc h2 h
theorem rch_rank {ps : List Pr} {ρ : Fin 64 → Nat} (hρ : ∀ x ∈ ps, ρ x.1 < ρ x.2) {a b : Fin 64} (h : Rch ps a b) : ρ a < ρ b := by
 induction h with
 | one h => exact hρ _ h
 | snoc _ h2 ih => exact Nat.lt_trans ih (hρ _ h2)
def dlO (ps : List Pr) (b : Fin 64) : List (Fin 64) := (ps.filter fun x => x.2 == b).map (·.1)
theorem mem_dl {ps : List Pr} {a b : Fin 64} : a ∈ dlO ps b ↔ (a, b) ∈ ps := by
 simp only [dlO, List.mem_map, List.mem_filter, beq_iff_eq]
 constructor
 ·rintro ⟨x, ⟨h1, h2⟩, h3⟩
  have : x = (a, b) := Prod.ext h3 h2
  exact this ▸ h1
 ·exact fun h => ⟨(a, b), ⟨h, rfl⟩, rfl⟩
def xsO (la : List SV) (i : Nat) : W64 := (la.getD i sz).x
def AbOk (ps : List Pr) (srt : List (Fin 64)) (j : Nat) (f : Nat → W64) : Prop := ∀ b c : Fin 64, (f b.val).getLsbD c.val = true ↔ b ∈ srt.take j ∧ Rch ps c b
def BeOk (ps : List Pr) (srt : List (Fin 64)) (j : Nat) (f : Nat → W64) : Prop := ∀ a c : Fin 64, (f a.val).getLsbD c.val = true ↔ c ∈ srt.take j ∧ Rch ps a c
theorem AbOk.start {ps : List Pr} {srt : List (Fin 64)} {f : Nat → W64} (h : ∀ i, i < 64 → f i = 0) : AbOk ps srt 0 f := fun b c => by
 rw [h _ b.isLt]; simp
theorem BeOk.start {ps : List Pr} {srt : List (Fin 64)} {f : Nat → W64} (h : ∀ i, i < 64 → f i = 0) : BeOk ps srt 0 f := fun b c => by
 rw [h _ b.isLt]; simp
def upA (ps : List Pr) (f : Nat → W64) (b : Fin 64) (m : Nat) : W64 := ((dlO ps b).take m).foldl (fun x a => (x ||| f a.val) ||| oneW a.val) (f b.val)
theorem fold_bit (f : Nat → W64) (c : Fin 64) : ∀ (l : List (Fin 64)) (x : W64), (l.foldl (fun x a => (x ||| f a.val) ||| oneW a.val) x).getLsbD c.val = true ↔ x.getLsbD c.val = true ∨ ∃ a ∈ l, c = a ∨ (f a.val).getLsbD c.val = true
 | [], x => by simp
 | a :: l, x => by
  rw [List.foldl_cons, fold_bit f c l]
  have e : (oneW a.val).getLsbD c.val = decide (c = a) := by
   rw [oneW_get _ _ a.isLt]
   by_cases h : c = a
   ·subst h; simp
   ·have : c.val ≠ a.val := fun e => h (Fin.ext e)
    simp [h, this]
  simp only [BitVec.getLsbD_or, e, Bool.or_eq_true, decide_eq_true_eq, List.mem_cons]
  constructor
  ·rintro (((h | h) | h) | ⟨a', h1, h2⟩)
   ·exact .inl h
   ·exact .inr ⟨a, .inl rfl, .inr h⟩
   ·exact .inr ⟨a, .inl rfl, .inl h⟩
   ·exact .inr ⟨a', .inr h1, h2⟩
  ·rintro (h | ⟨a', rfl | h1, h2⟩)
   ·exact .inl (.inl (.inl h))
   ·rcases h2 with h2 | h2
    ·exact .inl (.inr h2)
    ·exact .inl (.inl (.inr h2))
   ·exact .inr ⟨a', h1, h2⟩
theorem take_snoc {α : Type} {l : List α} {j : Nat} {b : α} (h : l[j]? = some b) : l.take (j + 1) = l.take j ++ [b] := by rw [List.take_add_one, h]; rfl
theorem not_in_take {l : List (Fin 64)} (hn : l.Nodup) {j : Nat} {b : Fin 64} (h : l[j]? = some b) : b ∉ l.take j := by
 intro hm
 have h2 : (l.take (j + 1)).Nodup := hn.sublist (List.take_sublist _ _)
 rw [take_snoc h, List.nodup_append] at h2
 exact h2.2.2 b hm b (by simp) rfl
theorem AbOk.next {ps : List Pr} {srt : List (Fin 64)} {j : Nat} {b : Fin 64} {f g : Nat → W64} (h : AbOk ps srt j f) (ht : Topo ps srt) (hb : srt[j]? = some b) (hg : ∀ i, i < 64 → g i = if i = b.val then upA ps f b (dlO ps b).length else f i) : AbOk ps srt (j + 1) g := by
 intro b' c
 have hnb := not_in_take ht.nd hb
 rw [hg _ b'.isLt, take_snoc hb]
 by_cases e : b' = b
 ·subst e
  rw [if_pos rfl, upA, List.take_length, fold_bit]
  constructor
  ·rintro (h1 | ⟨a, ha, h1⟩)
   ·exact absurd ((h b' c).1 h1).1 hnb
   ·refine ⟨by simp, rch_last.2 ⟨a, mem_dl.1 ha, ?_⟩⟩
    rcases h1 with h1 | h1
    ·exact .inl h1
    ·exact .inr ((h a c).1 h1).2
  ·rintro ⟨_, h1⟩
   obtain ⟨a, ha, h2⟩ := rch_last.1 h1
   refine .inr ⟨a, mem_dl.2 ha, ?_⟩
   rcases h2 with h2 | h2
   ·exact .inl h2
   ·obtain ⟨i, hi, hs⟩ := ht.up j b' hb (a, b') ha rfl
    exact .inr ((h a c).2 ⟨by rw [List.mem_iff_getElem?]; exact ⟨i, by rw [List.getElem?_take, if_pos hi]; exact hs⟩, h2⟩)
 ·have : ¬ b'.val = b.val := fun e' => e (Fin.ext e')
  rw [if_neg this, h b' c]
  simp [e]
theorem mem_val {x : W64} {t : Fin 64} : ((t.val : Int) ∈ memW x 64) ↔ x.getLsbD t.val = true := by
 unfold memW
 simp only [List.mem_map, List.mem_filter, List.mem_range]
 constructor
 ·rintro ⟨i, ⟨_, h2⟩, h3⟩
  have : i = t.val := by omega
  exact this ▸ h2
 ·exact fun h => ⟨t.val, ⟨t.isLt, h⟩, rfl⟩
theorem BeOk.next {ps : List Pr} {srt : List (Fin 64)} {j : Nat} {b : Fin 64} {f g k : Nat → W64} (h : BeOk ps srt j f) (ht : Topo ps srt) (hb : srt[j]? = some b) (ha : AbOk ps srt (j + 1) k) (hg : ∀ i, i < 64 → g i = if (i : Int) ∈ memW (k b.val) 64 then f i ||| oneW b.val else f i) : BeOk ps srt (j + 1) g := by
 intro a c
 have hin : b ∈ srt.take (j + 1) := by rw [take_snoc hb]; simp
 have hm : ((a.val : Int) ∈ memW (k b.val) 64) ↔ Rch ps a b := by
  rw [mem_val, ha b a]; exact ⟨fun h => h.2, fun h => ⟨hin, h⟩⟩
 have e : (oneW b.val).getLsbD c.val = decide (c = b) := by
  rw [oneW_get _ _ b.isLt]
  by_cases h : c = b
  ·subst h; simp
  ·have : c.val ≠ b.val := fun e => h (Fin.ext e)
   simp [h, this]
 rw [hg _ a.isLt, take_snoc hb]
 by_cases hr : Rch ps a b
 ·rw [if_pos (hm.2 hr)]
  simp only [BitVec.getLsbD_or, e, Bool.or_eq_true, decide_eq_true_eq, h a c, List.mem_append, List.mem_singleton]
  constructor
  ·rintro (⟨h1, h2⟩ | rfl)
   ·exact ⟨.inl h1, h2⟩
   ·exact ⟨.inr rfl, hr⟩
  ·rintro ⟨h1 | h1, h2⟩
   ·exact .inl ⟨h1, h2⟩
   ·exact .inr h1
 ·rw [if_neg (fun h => hr (hm.1 h)), h a c]
  simp only [List.mem_append, List.mem_singleton]
  constructor
  ·rintro ⟨h1, h2⟩; exact ⟨.inl h1, h2⟩
  ·rintro ⟨h1 | rfl, h2⟩
   ·exact ⟨h1, h2⟩
   ·exact absurd h2 hr
def BelS (ps : List Pr) (f : Nat → W64) : Prop := ∀ a c : Fin 64, (f a.val).getLsbD c.val = true ↔ Rch ps a c
theorem BeOk.done {ps : List Pr} {srt : List (Fin 64)} {f : Nat → W64} (h : BeOk ps srt 64 f) (ht : Topo ps srt) (hl : srt.length = 64) : BelS ps f := fun a c => by
 rw [h a c, List.take_of_length_le (by omega)]
 exact ⟨fun h => h.2, fun h => ⟨ht.all (by omega) c, h⟩⟩
def AboS (ps : List Pr) (f : Nat → W64) : Prop := ∀ b c : Fin 64, (f b.val).getLsbD c.val = true ↔ Rch ps c b
theorem AbOk.done {ps : List Pr} {srt : List (Fin 64)} {f : Nat → W64} (h : AbOk ps srt 64 f) (ht : Topo ps srt) (hl : srt.length = 64) : AboS ps f := fun b c => by
 rw [h b c, List.take_of_length_le (by omega)]
 exact ⟨fun h => h.2, fun h => ⟨ht.all (by omega) b, h⟩⟩
end Go.Lx
/- Slices that are made in a region that draws; a slice of own slices, their blocks apart; what holds cells is not touched where marks are shut. Nothing of a program stands here. -/
namespace Go.Lx
open Go Go.RowKit
section
variable {α : Type} {enc : α → List Value} {s : Nat} {T e : TypeId} {by_ : Nat} {z : Value} {β : Prop} {P : Program} {fr : Fr} {w : World} {c : Nat → Nat} {ops : Array Oper} {d : Nat} {ty : TypeId} {pos : String} {after : Array Edge} {kc : Nat}
end
section
variable {α : Type} {enc : α → List Value} {k : Nat} {D : Nat → Prop} {e : TypeId} {w w' : World} {l : List α}
theorem Own.block {a : Option Addr} {m c : Nat} (h : Own enc k e D w (.slice a m c) l) (hm : 0 < m) : ∃ g, a = some ⟨g, 0, none⟩ ∧ D g ∧ g < w.heap.size ∧ Own enc k e (fun b => b = g) w (.slice (some ⟨g, 0, none⟩) m c) l := by
 rcases h.row.2 with ⟨h1, h2⟩ | ⟨g, cap, cur, h1, h2, h3, h4⟩
 ·simp at h1; omega
 ·have h0 := h1
  simp at h1
  obtain ⟨rfl, _, _⟩ := h1
  have hb : (Value.slice (some ⟨g, 0, none⟩) m c).ownBlock = some g := rfl
  exact ⟨g, rfl, h.loc g hb, h.lt g hb, h.at fun b _ hb' => by simp [Value.ownBlock] at hb'; exact hb'.symm⟩
theorem shut_heap : ∀ {ms : List Nat} {w : World} {b : Nat} {o : Obj}, Mks w ms → w.heap[b]? = some o → o ≠ .deferred (some []) → (shut w ms).heap[b]? = some o
 | [], _, _, _, _, h, _ => h
 | m :: r, w, b, o, hm, h, ho => by
  have hne : b ≠ m := fun e => ho (by rw [e, hm.2.1] at h; simpa using h.symm)
  have hk : Mks (w.putObj m (.deferred none)) r := hm.2.2.keep fun c hc => World.putObj_heap_other (fun e : c = m => hm.1 (by rw [← e]; exact hc))
  exact shut_heap (w := w.putObj m (.deferred none)) hk ((World.putObj_heap_other hne).trans h) ho
theorem Box.shut {ms : List Nat} {b : Nat} {T : TypeId} {cs : List Value} (h : Box w b T cs) (hm : Mks w ms) : Box (shut w ms) b T cs := shut_heap hm h (fun e => by cases e)
theorem Own.shut {ms : List Nat} {v : Value} (h : Own enc k e D w v l) (hm : Mks w ms) : Own enc k e D (shut w ms) v l := by
 refine ⟨⟨h.row.1, ?_⟩, h.loc⟩
 rcases h.row.2 with h' | ⟨g, cap, cur, h1, h2, h3, h4⟩
 ·exact .inl h'
 ·exact .inr ⟨g, cap, cur, h1, h2, shut_heap hm h3 (fun e => by cases e), h4⟩
end
def encF (x : Fin 64) : List Value := [.int .i64 (iv x)]
structure DV where
 a : Option Addr
 c : Nat
 l : List (Fin 64)
def DV.v (d : DV) : Value := .slice d.a d.l.length d.c
def dz : DV := ⟨none, 0, []⟩
def DirO (e : TypeId) (D : Nat → Prop) (w : World) (ds : List DV) : Prop := ∀ (i : Nat) (d : DV), ds[i]? = some d → Own encF 1 e D w d.v d.l ∧ ∀ (j : Nat) (d' : DV), ds[j]? = some d' → i ≠ j → ∀ g, d.v.ownBlock = some g → d'.v.ownBlock ≠ some g
section
variable {e : TypeId} {D : Nat → Prop} {w w' : World} {ds : List DV}
theorem DirO.start {n : Nat} : DirO e D w (List.replicate n dz) := by
 intro i d h
 have : d = dz := by
  have := List.mem_of_getElem? h
  simp at this; exact this.2
 subst this
 exact ⟨Own.nil _ _, fun j d' _ _ g hg => by simp [DV.v, dz, Value.ownBlock] at hg⟩
theorem DirO.keep {γ : Prop} {D' : Nat → Prop} (h : DirO e D w ds) (x : Bel γ D' w w') (hd : ∀ g, g < w.heap.size → D g → ¬ D' g) : DirO e D w' ds := fun i d hi => ⟨(h i d hi).1.keepD x hd, (h i d hi).2⟩
theorem DirO.ext {γ : Prop} (h : DirO e D w ds) (x : Ext γ w w') : DirO e D w' ds := h.keep x fun _ _ _ => id
theorem DirO.set {i : Nat} {d d' : DV} (h : DirO e D w ds) (hi : ds[i]? = some d) (hD : ∀ g, w.heap.size ≤ g → D g) (x : Bel False (fun g => d.v.ownBlock = some g ∨ w.heap.size ≤ g) w w') (ho : Own encF 1 e (fun g => d.v.ownBlock = some g ∨ w.heap.size ≤ g) w' d'.v d'.l) : DirO e D w' (ds.set i d') := by
 have hlt : i < ds.length := (List.getElem?_eq_some_iff.1 hi).1
 have hold : ∀ j d2, j ≠ i → ds[j]? = some d2 → Own encF 1 e D w' d2.v d2.l ∧ (∀ g, d2.v.ownBlock = some g → g < w.heap.size ∧ d.v.ownBlock ≠ some g) := by
  intro j d2 hj h2
  obtain ⟨h3, h4⟩ := h j d2 h2
  have hb : ∀ g, d2.v.ownBlock = some g → g < w.heap.size ∧ d.v.ownBlock ≠ some g := fun g hg => ⟨h3.lt g hg, h4 i d hi hj g hg⟩
  exact ⟨h3.keep x fun g hl hg hq => by
   rcases hq with hq | hq
   ·exact (hb g hg).2 hq
   ·omega, hb⟩
 have hnew : ∀ g, d'.v.ownBlock = some g → d.v.ownBlock = some g ∨ w.heap.size ≤ g := fun g hg => ho.loc g hg
 intro j d2 hj
 rw [List.getElem?_set] at hj
 by_cases ej : i = j
 ·subst ej
  rw [if_pos rfl, if_pos hlt] at hj
  simp only [Option.some.injEq] at hj
  subst hj
  refine ⟨ho.mono fun g hg hq => ?_, fun j2 d3 h3 hne g hg hg3 => ?_⟩
  ·rcases hq with hq | hq
   ·exact (h i d hi).1.loc g hq
   ·exact hD g hq
  ·rw [List.getElem?_set, if_neg hne] at h3
   have := (hold j2 d3 (fun e => hne e.symm) h3).2 g hg3
   rcases hnew g hg with hq | hq
   ·exact this.2 hq
   ·omega
 ·rw [if_neg ej] at hj
  obtain ⟨h1, h2⟩ := hold j d2 (fun e => ej e.symm) hj
  refine ⟨h1, fun j2 d3 h3 hne g hg hg3 => ?_⟩
  rw [List.getElem?_set] at h3
  by_cases e2 : i = j2
  ·subst e2
   rw [if_pos rfl, if_pos hlt] at h3
   simp only [Option.some.injEq] at h3
   subst h3
   rcases hnew g hg3 with hq | hq
   ·exact (h2 g hg).2 hq
   ·have := (h2 g hg).1; omega
  ·rw [if_neg e2] at h3
   exact (h j d2 hj).2 j2 d3 h3 hne g hg hg3
end
theorem DirO.mono {e : TypeId} {D D' : Nat → Prop} {w : World} {ds : List DV} (h : DirO e D w ds) (hd : ∀ g, g < w.heap.size → D g → D' g) : DirO e D' w ds := fun i d hi => ⟨(h i d hi).1.mono hd, (h i d hi).2⟩
theorem WdsAt.set {F : Nat → Prop} {w : World} {l : List SV} {i : Nat} {s : SV} (h : WdsAt F w l) (hs : Sl encU 1 F w s.a s.c (wl s.x)) : WdsAt F w (l.set i s) := fun t ht => by
 rcases List.mem_or_eq_of_mem_set ht with ht | rfl
 ·exact h t ht
 ·exact hs
theorem cell_shut {ms : List Nat} {w : World} {p : Addr} {v : Value} (h : w.cell? p = some v) (hm : Mks w ms) : (shut w ms).cell? p = some v := by
 have hlt := World.block_lt_of_cell? w p (by rw [h])
 obtain ⟨o, ho⟩ : ∃ o, w.heap[p.block]? = some o := ⟨_, Array.getElem?_eq_getElem hlt⟩
 by_cases e : o = .deferred (some [])
 ·subst e
  unfold World.cell? at h
  rw [ho] at h
  cases h
 ·rw [World.cell?_of_block (w := w) (a := p) ((shut_heap hm ho e).trans ho.symm)]
  exact h
theorem At.shut {ms : List Nat} {w : World} {b off : Nat} {cs : List Value} (h : At w b off cs) (hm : Mks w ms) : At (shut w ms) b off cs := fun i v hi => cell_shut (h i v hi) hm
theorem shut_size : ∀ (ms : List Nat) (w : World), (shut w ms).heap.size = w.heap.size
 | [], _ => rfl
 | b :: r, w => (shut_size r _).trans (by simp [World.putObj])
theorem Sl.shut {α : Type} {enc : α → List Value} {k c : Nat} {F : Nat → Prop} {ms : List Nat} {w : World} {a : Option Addr} {l : List α} (h : Sl enc k F w a c l) (hm : Mks w ms) : Sl enc k F (shut w ms) a c l :=
 ⟨h.le, h.cap, h.nil, fun i x hi => by
  obtain ⟨b, off, h1, h2, h3, h4⟩ := h.el i x hi
  exact ⟨b, off, h1, ⟨h2.1, by rw [shut_size]; exact h2.2⟩, h3.shut hm, h4⟩⟩
theorem WdsAt.shut {F : Nat → Prop} {ms : List Nat} {w : World} {l : List SV} (h : WdsAt F w l) (hm : Mks w ms) : WdsAt F (shut w ms) l := fun s hs => (h s hs).shut hm
end Go.Lx
/- Sessions: what the operations on a book answer. Nothing of a program stands here. -/
namespace Go.Lx
open Go
structure RS where
 n : Int
 u : Int
 x : W64
 deriving DecidableEq
def rz : RS := ⟨0, 0, 0⟩
structure OkM (m : List RS) : Prop where
 asc : m.Pairwise fun a b => a.n < b.n
 rng : ∀ s ∈ m, 1 ≤ s.n ∧ s.n ≤ 64
 usr : ∀ s ∈ m, 1 ≤ s.u ∧ s.u ≤ 256
 rol : ∀ s ∈ m, s.x.getLsbD 0 = false
theorem OkM.nil : OkM [] := ⟨List.Pairwise.nil, by simp, by simp, by simp⟩
theorem asc_lt {m : List RS} (h : m.Pairwise fun a b => a.n < b.n) {i j : Nat} (hij : i < j) (hj : j < m.length) : (m.getD i rz).n < (m.getD j rz).n := by
 have := List.pairwise_iff_getElem.1 h i j (by omega) hj hij
 simpa [List.getD, show i < m.length by omega, hj] using this
theorem OkM.ge {m : List RS} (h : OkM m) : ∀ {i : Nat}, i < m.length → (i : Int) + 1 ≤ (m.getD i rz).n := by
 intro i
 induction i with
 | zero => intro hi; have := (h.rng _ (gm (z := rz) hi)).1; omega
 | succ i ih =>
  intro hi
  have h1 := ih (by omega)
  have h2 := asc_lt h.asc (i := i) (j := i + 1) (by omega) hi
  omega
theorem OkM.len {m : List RS} (h : OkM m) : m.length ≤ 64 := by
 rcases Nat.lt_or_ge m.length 65 with h1 | h1
 ·omega
 ·have h2 := h.ge (i := m.length - 1) (by omega)
  have h3 := (h.rng _ (gm (z := rz) (show m.length - 1 < m.length by omega))).2
  omega
def gapF : List RS → Int → Nat
 | [], _ => 0
 | s :: r, k => if s.n = k then gapF r (k + 1) + 1 else 0
def gap (m : List RS) : Nat := gapF m 1
theorem gapF_uniq : ∀ (m : List RS) (k : Int) (i : Nat), i ≤ m.length → (∀ j, j < i → (m.getD j rz).n = k + j) → (i < m.length → (m.getD i rz).n ≠ k + i) → i = gapF m k
 | [], k, i, h, _, _ => by simp at h; subst h; rfl
 | s :: r, k, 0, h, h1, h2 => by
  have := h2 (by simp)
  simp at this
  simp [gapF, this]
 | s :: r, k, i + 1, h, h1, h2 => by
  have h3 := h1 0 (by omega)
  simp at h3
  rw [gapF, if_pos h3, gapF_uniq r (k + 1) i (by simpa using h) (fun j hj => by
   have := h1 (j + 1) (by omega)
   simp only [List.getD_cons_succ] at this
   rw [this]; push_cast; omega) (fun hi => by
   have := h2 (by simpa using hi)
   simp only [List.getD_cons_succ] at this
   intro e; apply this; rw [e]; push_cast; omega)]
theorem gapF_ok : ∀ (m : List RS) (k : Int), gapF m k ≤ m.length ∧ (∀ j, j < gapF m k → (m.getD j rz).n = k + j) ∧ (gapF m k < m.length → (m.getD (gapF m k) rz).n ≠ k + gapF m k)
 | [], k => by simp [gapF]
 | s :: r, k => by
  obtain ⟨h1, h2, h3⟩ := gapF_ok r (k + 1)
  by_cases e : s.n = k
  ·rw [gapF, if_pos e]
   refine ⟨by simpa using h1, ?_, ?_⟩
   ·intro j hj
    cases j with
    | zero => simp [e]
    | succ j =>
     rw [List.getD_cons_succ, h2 j (by omega)]; push_cast; omega
   ·intro hl
    rw [List.getD_cons_succ]
    have := h3 (by simpa using hl)
    intro e2; apply this; rw [e2]; push_cast; omega
  ·rw [gapF, if_neg e]
   refine ⟨by simp, by simp, ?_⟩
   intro _; simpa using e
theorem gap_uniq {m : List RS} {i : Nat} (h : i ≤ m.length) (h1 : ∀ j, j < i → (m.getD j rz).n = (j : Int) + 1) (h2 : i < m.length → (m.getD i rz).n ≠ (i : Int) + 1) : i = gap m :=
 gapF_uniq m 1 i h (fun j hj => by rw [h1 j hj]; omega) (fun hi e => h2 hi (by rw [e]; omega))
theorem gap_le (m : List RS) : gap m ≤ m.length := (gapF_ok m 1).1
theorem gap_lt {m : List RS} {j : Nat} (h : j < gap m) : (m.getD j rz).n = (j : Int) + 1 := by rw [(gapF_ok m 1).2.1 j h]; omega
theorem gap_at {m : List RS} (h : gap m < m.length) : (m.getD (gap m) rz).n ≠ (gap m : Int) + 1 := by
 have := (gapF_ok m 1).2.2 h
 intro e; exact this (by show (m.getD (gap m) rz).n = 1 + (gap m : Int); omega)
def newS (m : List RS) (u : Int) : RS := ⟨(gap m : Int) + 1, u, 0⟩
def openM (m : List RS) (u : Int) : List RS := m.take (gap m) ++ newS m u :: m.drop (gap m)
theorem mem_open {m : List RS} {u : Int} {s : RS} : s ∈ openM m u ↔ s = newS m u ∨ s ∈ m := by
 unfold openM
 rw [List.mem_append, List.mem_cons]
 have e : s ∈ m ↔ s ∈ m.take (gap m) ∨ s ∈ m.drop (gap m) := by rw [← List.mem_append, List.take_append_drop]
 rw [e]
 constructor
 ·rintro (h | h | h)
  ·exact .inr (.inl h)
  ·exact .inl h
  ·exact .inr (.inr h)
 ·rintro (h | h | h)
  ·exact .inr (.inl h)
  ·exact .inl h
  ·exact .inr (.inr h)
theorem open_len (m : List RS) (u : Int) : (openM m u).length = m.length + 1 := by
 have := gap_le m
 simp [openM]; omega
theorem gtake_n {m : List RS} {s : RS} (h : s ∈ m.take (gap m)) : s.n < (gap m : Int) + 1 := by
 obtain ⟨i, hi, rfl⟩ := List.getElem_of_mem h
 rw [List.length_take] at hi
 have := gap_lt (m := m) (j := i) (by omega)
 simp [List.getD, show i < m.length by omega] at this
 rw [List.getElem_take, this]; omega
theorem drop_n {m : List RS} (hm : OkM m) {s : RS} (h : s ∈ m.drop (gap m)) : (gap m : Int) + 1 < s.n := by
 obtain ⟨i, hi, rfl⟩ := List.getElem_of_mem h
 rw [List.length_drop] at hi
 have hg : gap m < m.length := by omega
 have h1 := gap_at hg
 have h2 := hm.ge hg
 rw [List.getElem_drop]
 have e : m[gap m + i]'(by omega) = m.getD (gap m + i) rz := by simp [List.getD, show gap m + i < m.length by omega]
 rw [e]
 cases i with
 | zero => simp only [Nat.add_zero]; omega
 | succ i =>
  have := asc_lt hm.asc (i := gap m) (j := gap m + (i + 1)) (by omega) (by omega)
  omega
theorem OkM.open {m : List RS} (h : OkM m) {u : Int} (hu : 1 ≤ u ∧ u ≤ 256) (hl : m.length < 64) : OkM (openM m u) where
 asc := by
  unfold openM
  rw [List.pairwise_append, List.pairwise_cons]
  refine ⟨h.asc.sublist (List.take_sublist _ _), ⟨fun s hs => drop_n h hs, h.asc.sublist (List.drop_sublist _ _)⟩, fun a ha b hb => ?_⟩
  have h1 := gtake_n ha
  rcases List.mem_cons.1 hb with rfl | hb
  ·exact h1
  ·have := drop_n h hb; omega
 rng s hs := by
  rcases mem_open.1 hs with rfl | hs
  ·have := gap_le m
   simp only [newS]; omega
  ·exact h.rng s hs
 usr s hs := by
  rcases mem_open.1 hs with rfl | hs
  ·exact hu
  ·exact h.usr s hs
 rol s hs := by
  rcases mem_open.1 hs with rfl | hs
  ·simp [newS]
  ·exact h.rol s hs
def fnd (m : List RS) (n : Int) : Int := ixOf (fun s => s.n == n) m
theorem fnd_no {m : List RS} {n : Int} (h : ∀ s ∈ m, s.n ≠ n) : fnd m n = -1 :=
 ixOf_none (Nat.le_refl _) (by rw [List.take_length, List.any_eq_false]; intro s hs; simpa using h s hs)
theorem no_fnd {m : List RS} {n : Int} (h : fnd m n < 0) : ∀ s ∈ m, s.n ≠ n := by
 have h1 := ixOf_ge (fun s : RS => s.n == n) m
 have h2 : decide ((0 : Int) ≤ fnd m n) = false := decide_eq_false (by omega)
 unfold fnd at h2
 rw [h2] at h1
 have := List.any_eq_false.1 h1.symm
 intro s hs; simpa using this s hs
theorem fnd_some {m : List RS} {n : Int} (h : 0 ≤ fnd m n) : ∃ i : Nat, fnd m n = i ∧ i < m.length ∧ (m.getD i rz).n = n := by
 have h3 : (fnd m n == -1) = false := by simp; omega
 obtain ⟨i, h1, h2, _, h4⟩ := ix_some rz h3
 exact ⟨i, h1, h2, by simpa using h4⟩
theorem n_inj {m : List RS} (h : OkM m) {i j : Nat} (hi : i < m.length) (hj : j < m.length) (e : (m.getD i rz).n = (m.getD j rz).n) : i = j := by
 rcases Nat.lt_trichotomy i j with h1 | h1 | h1
 ·have := asc_lt h.asc h1 hj; omega
 ·exact h1
 ·have := asc_lt h.asc h1 hi; omega
theorem fnd_at {m : List RS} (h : OkM m) {n : Int} {i : Nat} (hi : i < m.length) (hn : (m.getD i rz).n = n) : fnd m n = i := by
 rcases Int.lt_or_le (fnd m n) 0 with h1 | h1
 ·exact absurd hn (no_fnd h1 _ (gm hi))
 ·obtain ⟨j, h2, h3, h4⟩ := fnd_some h1
  rw [h2, n_inj h h3 hi (h4.trans hn.symm)]
def flt (m : List RS) (k : Int) : List RS := m.filter fun s => decide (s.n < k)
theorem flt_succ : ∀ {m : List RS} (h : m.Pairwise fun a b => a.n < b.n) (k : Int), flt m (k + 1) = flt m k ++ m.filter fun s => decide (s.n = k)
 | [], _, k => rfl
 | s :: r, h, k => by
  obtain ⟨h1, h2⟩ := List.pairwise_cons.1 h
  have ih := flt_succ h2 k
  unfold flt at ih ⊢
  rcases Int.lt_trichotomy s.n k with e | e | e
  ·rw [List.filter_cons_of_pos (by simp; omega), List.filter_cons_of_pos (by simpa using e), List.filter_cons_of_neg (by simp; omega), ih]; rfl
  ·have h3 : r.filter (fun s => decide (s.n < k)) = [] := List.filter_eq_nil_iff.2 fun t ht => by have := h1 t ht; simp; omega
   rw [List.filter_cons_of_pos (by simp; omega), List.filter_cons_of_neg (by simp; omega), List.filter_cons_of_pos (by simpa using e), ih, h3]; rfl
  ·have h3 : r.filter (fun s => decide (s.n < k)) = [] := List.filter_eq_nil_iff.2 fun t ht => by have := h1 t ht; simp; omega
   have h4 : r.filter (fun s => decide (s.n = k)) = [] := List.filter_eq_nil_iff.2 fun t ht => by have := h1 t ht; simp; omega
   rw [List.filter_cons_of_neg (by simp; omega), List.filter_cons_of_neg (by simp; omega), List.filter_cons_of_neg (by simp; omega), ih, h3, h4]
theorem flt_one : ∀ {m : List RS} (h : m.Pairwise fun a b => a.n < b.n) {s : RS} (hs : s ∈ m), m.filter (fun t => decide (t.n = s.n)) = [s]
 | [], _, s, hs => by cases hs
 | t :: r, h, s, hs => by
  obtain ⟨h1, h2⟩ := List.pairwise_cons.1 h
  rcases List.mem_cons.1 hs with rfl | hs
  ·rw [List.filter_cons_of_pos (by simp), List.filter_eq_nil_iff.2 fun t ht => by have := h1 t ht; simp; omega]
  ·rw [List.filter_cons_of_neg (by have := h1 s hs; simp; omega), flt_one h2 hs]
theorem flt_none {m : List RS} {k : Int} (h : ∀ s ∈ m, s.n ≠ k) : m.filter (fun t => decide (t.n = k)) = [] := List.filter_eq_nil_iff.2 fun t ht => by simpa using h t ht
theorem flt_all {m : List RS} (h : OkM m) : flt m 65 = m := List.filter_eq_self.2 fun s hs => by have := (h.rng s hs).2; simp; omega
theorem flt_start {m : List RS} (h : OkM m) : flt m 1 = [] := List.filter_eq_nil_iff.2 fun s hs => by have := (h.rng s hs).1; simp; omega
section
variable {m : List RS} (hm : OkM m) {u : Int} (hu : 1 ≤ u ∧ u ≤ 256) (hl : m.length < 64) {k : Int}
include hm hu hl
theorem open_hit (e : k = (gap m : Int) + 1) : flt (openM m u) (k + 1) = flt (openM m u) k ++ [newS m u] := by
 subst e
 have ho := hm.open hu hl
 rw [flt_succ ho.asc]
 congr 1
 exact flt_one ho.asc (s := newS m u) (mem_open.2 (.inl rfl))
theorem open_old {i : Nat} (hi : i < m.length) (e : (m.getD i rz).n = k) : flt (openM m u) (k + 1) = flt (openM m u) k ++ [m.getD i rz] := by
 subst e
 have ho := hm.open hu hl
 rw [flt_succ ho.asc]
 congr 1
 exact flt_one ho.asc (mem_open.2 (.inr (gm hi)))
theorem open_no (e : k ≠ (gap m : Int) + 1) (hf : fnd m k < 0) : flt (openM m u) (k + 1) = flt (openM m u) k := by
 have ho := hm.open hu hl
 rw [flt_succ ho.asc, flt_none, List.append_nil]
 intro s hs
 rcases mem_open.1 hs with rfl | hs
 ·exact fun h => e h.symm
 ·exact no_fnd hf s hs
end
theorem fnd_gap_lt {m : List RS} {k : Int} (h1 : 1 ≤ k) (h2 : k ≤ gap m) : 0 ≤ fnd m k := by
 rcases Int.lt_or_le (fnd m k) 0 with h | h
 ·obtain ⟨j, rfl⟩ : ∃ j : Nat, k = (j : Int) + 1 := ⟨(k - 1).toNat, by omega⟩
  have hj : j < gap m := by omega
  exact absurd (gap_lt hj) (no_fnd h _ (gm (by have := gap_le m; omega)))
 ·exact h
theorem fnd_gap {m : List RS} (hm : OkM m) : fnd m ((gap m : Int) + 1) < 0 := by
 rw [fnd_no]
 ·decide
 intro s hs
 rw [← List.take_append_drop (gap m) m, List.mem_append] at hs
 rcases hs with hs | hs
 ·have := gtake_n hs; omega
 ·have := drop_n hm hs; omega
theorem gap_full {m : List RS} (hm : OkM m) (h : m.length = 64) : gap m = 64 := by
 rcases Nat.lt_or_ge (gap m) 64 with h1 | h1
 ·exfalso
  have h2 : ∀ j, j < 64 → gap m ≤ j → (j : Int) + 2 ≤ (m.getD j rz).n := by
   intro j
   induction j with
   | zero =>
    intro hj hg
    have e : gap m = 0 := by omega
    have h3 := gap_at (m := m) (by omega)
    have h4 := hm.ge (i := 0) (by omega)
    rw [e] at h3; omega
   | succ j ih =>
    intro hj hg
    rcases Nat.lt_or_ge j (gap m) with h5 | h5
    ·have e : gap m = j + 1 := by omega
     have h3 := gap_at (m := m) (by omega)
     have h4 := hm.ge (i := j + 1) (by omega)
     rw [e] at h3; omega
    ·have h6 := ih (by omega) h5
     have := asc_lt hm.asc (i := j) (j := j + 1) (by omega) (by omega)
     push_cast; omega
  have h3 := h2 63 (by omega) (by omega)
  have h4 := (hm.rng _ (gm (z := rz) (show 63 < m.length by omega))).2
  omega
 ·have := gap_le m; omega
def closeM (m : List RS) (n : Int) : List RS := m.filter fun s => s.n != n
theorem close_eq {m : List RS} (hm : OkM m) {i : Nat} (hi : i < m.length) : m.take i ++ m.drop (i + 1) = closeM m (m.getD i rz).n := by
 have e : m = m.take i ++ m.getD i rz :: m.drop (i + 1) := by
  have : m.getD i rz = m[i] := by simp [List.getD, hi]
  rw [this, ← List.drop_eq_getElem_cons hi, List.take_append_drop]
 have h1 := hm.asc
 rw [e, List.pairwise_append, List.pairwise_cons] at h1
 obtain ⟨_, ⟨h3, _⟩, h4⟩ := h1
 have hr : closeM m (m.getD i rz).n = closeM (m.take i ++ m.getD i rz :: m.drop (i + 1)) (m.getD i rz).n := congrArg (fun l => closeM l (m.getD i rz).n) e
 rw [hr]
 unfold closeM
 rw [List.filter_append, List.filter_cons_of_neg (by simp), List.filter_eq_self.2, List.filter_eq_self.2]
 ·intro s hs; have := h3 s hs; rw [bne_iff_ne]; omega
 ·intro s hs; have := h4 s hs _ (List.mem_cons_self ..); rw [bne_iff_ne]; omega
theorem OkM.sub {m m' : List RS} (h : OkM m) (hs : m'.Sublist m) : OkM m' :=
 ⟨h.asc.sublist hs, fun s h1 => h.rng s (hs.subset h1), fun s h1 => h.usr s (hs.subset h1), fun s h1 => h.rol s (hs.subset h1)⟩
theorem OkM.close {m : List RS} (h : OkM m) (n : Int) : OkM (closeM m n) := h.sub List.filter_sublist
def setM (m : List RS) (i : Nat) (x : W64) : List RS := m.set i ⟨(m.getD i rz).n, (m.getD i rz).u, x⟩
theorem OkM.set {m : List RS} (h : OkM m) {i : Nat} (hi : i < m.length) {x : W64} (hx : x.getLsbD 0 = false) : OkM (setM m i x) := by
 have hs : ∀ s ∈ setM m i x, s = ⟨(m.getD i rz).n, (m.getD i rz).u, x⟩ ∨ s ∈ m := fun s hs => (List.mem_or_eq_of_mem_set hs).symm
 have hg := gm (z := rz) hi
 refine ⟨?_, ?_, ?_, ?_⟩
 ·rw [List.pairwise_iff_getElem]
  intro a b ha hb hab
  have hn : ∀ j (hj : j < (setM m i x).length), (setM m i x)[j].n = (m.getD j rz).n := by
   intro j hj
   have hj' : j < m.length := by simpa [setM] using hj
   simp only [setM, List.getElem_set]
   split
   ·rename_i e; subst e; rfl
   ·simp [List.getD, hj']
  rw [hn a ha, hn b hb]
  exact asc_lt h.asc hab (by simpa [setM] using hb)
 ·intro s h1
  rcases hs s h1 with rfl | h1
  ·exact h.rng (m.getD i rz) hg
  ·exact h.rng _ h1
 ·intro s h1
  rcases hs s h1 with rfl | h1
  ·exact h.usr (m.getD i rz) hg
  ·exact h.usr _ h1
 ·intro s h1
  rcases hs s h1 with rfl | h1
  ·exact hx
  ·exact h.rol _ h1
def openR (m : List RS) (u : Int) : List RS × Int × Int := if u < 1 ∨ 256 < u then (m, 0, 1) else if 64 ≤ m.length then (m, 0, 14) else (openM m u, (gap m : Int) + 1, 0)
def closeR (m : List RS) (n : Int) : List RS × Int := if fnd m n < 0 then (m, 4) else (closeM m n, 0)
def hasB (x : W64) (r : Int) : Bool := x.getLsbD r.toNat
def setR (m : List RS) (n r : Int) (act : Bool) : List RS × Int :=
 if r < 1 ∨ 63 < r then (m, 1) else if fnd m n < 0 then (m, 4) else
 if hasB (m.getD (fnd m n).toNat rz).x r = act then (m, if act then 5 else 4)
 else (setM m (fnd m n).toNat ((m.getD (fnd m n).toNat rz).x ^^^ oneW r.toNat), 0)
theorem OkM.openR {m : List RS} (h : OkM m) (u : Int) : OkM (openR m u).1 := by
 unfold Lx.openR
 split
 ·exact h
 ·split
  ·exact h
  ·exact h.open (by omega) (by omega)
theorem OkM.closeR {m : List RS} (h : OkM m) (n : Int) : OkM (closeR m n).1 := by
 unfold Lx.closeR
 split
 ·exact h
 ·exact h.close n
theorem OkM.setR {m : List RS} (h : OkM m) (n r : Int) (act : Bool) : OkM (setR m n r act).1 := by
 unfold Lx.setR
 split
 ·exact h
 ·split
  ·exact h
  ·split
   ·exact h
   ·obtain ⟨i, h1, h2, _⟩ := fnd_some (m := m) (n := n) (by omega)
    rw [h1, Int.toNat_natCast]
    refine h.set h2 ?_
    have := h.rol _ (gm (z := rz) h2)
    rw [BitVec.getLsbD_xor, this, oneW_get r.toNat 0 (by omega)]
    have : r.toNat ≠ 0 := by omega
    simp; omega
structure BsI (m : List RS) (n : Int) (i j : Nat) : Prop where
 le : i ≤ j
 len : j ≤ m.length
 low : ∀ t, t < i → (m.getD t rz).n < n
 up : ∀ t, j ≤ t → t < m.length → n ≤ (m.getD t rz).n
theorem BsI.start (m : List RS) (n : Int) {k : Nat} (h : k = m.length) : BsI m n 0 k := ⟨Nat.zero_le _, by omega, fun t h => by omega, fun t h h2 => by omega⟩
section
variable {m : List RS} {n : Int} {i j : Nat} (h : BsI m n i j) (hm : OkM m)
include h hm
theorem BsI.lo {k : Nat} (h1 : i ≤ k) (h2 : k < j) (hk : (m.getD k rz).n < n) : BsI m n (k + 1) j := by
 refine ⟨by omega, h.len, fun t ht => ?_, h.up⟩
 rcases Nat.lt_or_ge t k with h3 | h3
 ·have := asc_lt hm.asc h3 (by have := h.len; omega); omega
 ·obtain rfl : t = k := by omega
  exact hk
theorem BsI.hi {k : Nat} (h1 : i ≤ k) (h2 : k < j) (hk : n ≤ (m.getD k rz).n) : BsI m n i k := by
 refine ⟨h1, by have := h.len; omega, h.low, fun t ht hl => ?_⟩
 rcases Nat.lt_or_ge k t with h3 | h3
 ·have := asc_lt hm.asc h3 hl; omega
 ·obtain rfl : t = k := by omega
  exact hk
end
theorem BsI.fin {m : List RS} {n : Int} {i : Nat} (h : BsI m n i i) (hm : OkM m) : decide (0 ≤ fnd m n) = (decide (i < m.length) && decide ((m.getD i rz).n = n)) ∧ (0 ≤ fnd m n → fnd m n = i) := by
 by_cases h1 : i < m.length ∧ (m.getD i rz).n = n
 ·have e := fnd_at hm h1.1 h1.2
  refine ⟨?_, fun _ => e⟩
  rw [e, decide_eq_true h1.1, decide_eq_true h1.2]; simp
 ·have e : fnd m n = -1 := fnd_no fun s hs hn => by
   obtain ⟨t, ht, rfl⟩ := List.getElem_of_mem hs
   have et : (m.getD t rz).n = n := by simpa [List.getD, ht] using hn
   rcases Nat.lt_trichotomy t i with h2 | h2 | h2
   ·have := h.low t h2; omega
   ·subst h2; exact h1 ⟨ht, et⟩
   ·rcases Nat.lt_or_ge i m.length with h3 | h3
    ·have h4 := asc_lt hm.asc h2 ht
     have h5 := h.up i (Nat.le_refl _) h3
     omega
    ·omega
  refine ⟨?_, fun h2 => by omega⟩
  rw [e]
  symm
  rw [show decide ((0 : Int) ≤ -1) = false by decide, Bool.and_eq_false_iff]
  by_cases h2 : i < m.length
  ·exact .inr (decide_eq_false fun h3 => h1 ⟨h2, h3⟩)
  ·exact .inl (decide_eq_false h2)
theorem flt_len (m : List RS) (k : Int) : (flt m k).length ≤ m.length := List.length_filter_le _ _
structure SOp where
 k : UInt8
 s : UInt8
 u : Int
 r : Int
def numO (o : SOp) : Int := ((o.s.toNat % 70 : Nat) : Int)
def kindO (o : SOp) : Nat := o.k.toNat % 5
def stepR (m : List RS) (o : SOp) : List RS × Int :=
 if kindO o ≤ 1 then ((openR m o.u).1, (openR m o.u).2.2) else if kindO o = 2 then closeR m (numO o) else if kindO o = 3 then setR m (numO o) o.r true else setR m (numO o) o.r false
theorem OkM.step {m : List RS} (h : OkM m) (o : SOp) : OkM (stepR m o).1 := by
 unfold stepR
 split
 ·exact h.openR _
 ·split
  ·exact h.closeR _
  ·split <;> exact h.setR _ _ _
structure FullTo (m : List RS) (k : Nat) : Prop where
 ok : OkM m
 len : m.length = k
 num : ∀ j, j < k → (m.getD j rz).n = (j : Int) + 1
theorem FullTo.start : FullTo [] 0 := ⟨OkM.nil, rfl, fun j h => absurd h (Nat.not_lt_zero _)⟩
theorem FullTo.gapk {m : List RS} {k : Nat} (h : FullTo m k) : gap m = k := (gap_uniq (by rw [h.len]; exact Nat.le_refl _) h.num (fun hk => by rw [h.len] at hk; omega)).symm
theorem FullTo.open {m : List RS} {k : Nat} (h : FullTo m k) (hk : k < 64) {u : Int} (hu : 1 ≤ u ∧ u ≤ 256) : openR m u = (openM m u, (k : Int) + 1, 0) ∧ FullTo (openM m u) (k + 1) := by
 have hl := h.len
 refine ⟨by rw [openR, if_neg (by omega), if_neg (by omega), h.gapk], h.ok.open hu (by omega), by rw [open_len, h.len], fun j hj => ?_⟩
 have e : openM m u = m ++ [newS m u] := by
  unfold openM
  rw [h.gapk, List.take_of_length_le (by omega), List.drop_of_length_le (by omega)]
 rw [e]
 rcases Nat.lt_or_ge j k with h1 | h1
 ·rw [← h.num j h1]
  simp [List.getD, List.getElem?_append_left (show j < m.length by omega)]
 ·have : j = m.length := by omega
  subst this
  simp [List.getD, newS, h.gapk, hl]
theorem FullTo.close {m : List RS} (h : FullTo m 64) {x : Nat} (hx : x < 64) : closeR m ((x : Int) + 1) = (closeM m ((x : Int) + 1), 0) ∧ OkM (closeM m ((x : Int) + 1)) ∧ (closeM m ((x : Int) + 1)).length = 63 ∧ gap (closeM m ((x : Int) + 1)) = x := by
 have hl := h.len
 have hn := h.num x hx
 have hf : fnd m ((x : Int) + 1) = x := fnd_at h.ok (by omega) hn
 have e := close_eq h.ok (i := x) (by omega)
 rw [hn] at e
 refine ⟨by rw [closeR, if_neg (by omega)], h.ok.close _, ?_, ?_⟩
 ·rw [← e]; simp; omega
 ·refine (gap_uniq ?_ (fun j hj => ?_) (fun hlt => ?_)).symm
  ·rw [← e]; simp; omega
  ·rw [← e, ← h.num j (by omega)]
   have h1 : j < (m.take x).length := by simp; omega
   simp [List.getD, List.getElem?_append_left h1, List.getElem?_take, hj]
  ·rw [← e] at hlt ⊢
   have h1 : (m.take x).length = x := by simp; omega
   have h2 : (m.take x ++ m.drop (x + 1)).getD x rz = m.getD (x + 1) rz := by
    simp only [List.getD]
    rw [List.getElem?_append_right (by omega), h1, Nat.sub_self, List.getElem?_drop, Nat.add_zero]
   have h3 : x + 1 < 64 := by simp at hlt; omega
   rw [h2, h.num (x + 1) h3]
   push_cast; omega
