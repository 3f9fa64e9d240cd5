/- Several texts in one file. -/
import Derived.Test.YtdnkjdmfnmdpdaaGreatDoorSe
import Derived.Test.YtdnkjdmfnmdpdaaGreatDoorGr
import Derived.Test.YtdnkjdmfnmdpdaaGreatDoorCs
import Derived.Test.YtdnkjdmfnmdpdaaGreatDoorSu
import Derived.Lib.LaidTab
set_option linter.unusedSimpArgs false
set_option linter.unusedVariables false
set_option linter.unnecessarySimpa false
/- Reading numbers and byte strings from the front of bytes: plain law. Nothing of a program stands here. -/
namespace Go.Lx
open Go
def grp (v : W64) (b : UInt8) : W64 := (v <<< 7) ||| BitVec.ofNat 64 (b &&& 127).toNat
def numGo : Nat → W64 → List UInt8 → W64 × Nat
 | _, _, [] => (0, 0)
 | k, v, b :: r => if ((k == 0 && b == 128) || decide (144115188075855871 < v.toNat)) = true then (0, 0) else if b.toNat < 128 then (grp v b, k + 1) else numGo (k + 1) (grp v b) r
def numR (l : List UInt8) : W64 × Nat := numGo 0 0 l
theorem and127 (b : UInt8) : (b &&& 127).toNat = b.toNat % 128 := by
 rw [UInt8.toNat_and]
 exact Nat.and_two_pow_sub_one_eq_mod b.toNat 7
theorem grp_nat {v : W64} {b : UInt8} (h : v.toNat < 2 ^ 57) : (grp v b).toNat = v.toNat * 128 + b.toNat % 128 := by
 have h1 : (BitVec.ofNat 64 (b &&& 127).toNat).toNat = b.toNat % 128 := by
  rw [BitVec.toNat_ofNat, and127]; omega
 have h2 : (v <<< 7).toNat = v.toNat * 128 := by
  rw [BitVec.toNat_shiftLeft, Nat.shiftLeft_eq]; omega
 rw [grp, BitVec.toNat_or, h1, h2]
 have h3 := Nat.two_pow_add_eq_or_of_lt (i := 7) (b := b.toNat % 128) (by omega) v.toNat
 rw [Nat.mul_comm] at h3
 exact h3.symm
theorem numGo_le : ∀ (l : List UInt8) (k : Nat) (v : W64), (numGo k v l).2 ≤ k + l.length
 | [], k, v => by simp [numGo]
 | b :: r, k, v => by
  rw [numGo]
  split
  ·simp
  split
  ·simp
  ·have := numGo_le r (k + 1) (grp v b)
   rw [List.length_cons]; omega
theorem numR_le (l : List UInt8) : (numR l).2 ≤ l.length := by have := numGo_le l 0 0; rw [numR]; omega
theorem numGo_app : ∀ (A : List UInt8) (k : Nat) (v y : W64) (r : List UInt8), (∀ c ∈ A, 128 ≤ c.toNat) → (k = 0 → ∀ c, A.head? = some c → c ≠ 128) → (∀ j, j < A.length → ((A.take j).foldl grp v).toNat < 2 ^ 57) → A.foldl grp v = y → numGo k v (A ++ r) = numGo (k + A.length) y r
 | [], k, v, y, r, _, _, _, h => by simp at h; subst h; rfl
 | c :: A, k, v, y, r, h1, h2, h3, h4 => by
  have hc := h1 c (by simp)
  have hv : v.toNat < 2 ^ 57 := by have := h3 0 (by simp); simpa using this
  rw [List.cons_append, numGo, if_neg, if_neg (by omega)]
  ·have := numGo_app A (k + 1) (grp v c) y r (fun d hd => h1 d (by simp [hd])) (fun e => by omega) (fun j hj => by have := h3 (j + 1) (by simp; omega); simpa using this) (by simpa using h4)
   rw [this, List.length_cons]; congr 1; omega
  ·intro e
   rw [Bool.or_eq_true, Bool.and_eq_true] at e
   rcases e with ⟨e1, e2⟩ | e
   ·exact h2 (by simpa using e1) c rfl (by simpa using e2)
   ·have := of_decide_eq_true e; omega
theorem gT_fold (y : W64) (hy : y.toNat < 2 ^ 57) : (gT y).reverse.foldl grp 0 = y ∧ ∀ j, j < (gT y).length → (((gT y).reverse.take j).foldl grp 0).toNat < 2 ^ 57 := by
 rw [gT]
 split
 ·rename_i h; subst h; exact ⟨rfl, fun j hj => by simp at hj⟩
 ·rename_i h
  have hlt := shr7_lt h
  have hs : (y >>> 7).toNat = y.toNat / 128 := by rw [BitVec.toNat_ushiftRight, Nat.shiftRight_eq_div_pow]
  obtain ⟨ih, ihj⟩ := gT_fold (y >>> 7) (by omega)
  have hb := b7_nat y
  refine ⟨?_, fun j hj => ?_⟩
  ·rw [List.reverse_cons, List.foldl_append, ih]
   show grp (y >>> 7) (b7 y ||| 128) = y
   apply BitVec.eq_of_toNat_eq
   rw [grp_nat (by omega), b8_nat _ (by omega), hs]; omega
  ·rw [List.reverse_cons]
   simp only [List.length_cons] at hj
   rcases Nat.lt_or_ge j (gT (y >>> 7)).length with h1 | h1
   ·rw [List.take_append_of_le_length (by rw [List.length_reverse]; omega)]; exact ihj j h1
   ·have : j = (gT (y >>> 7)).length := by omega
    subst this
    rw [List.take_append_of_le_length (by rw [List.length_reverse]; omega), List.take_of_length_le (by rw [List.length_reverse]; omega), ih]; omega
termination_by y.toNat
decreasing_by exact shr7_lt (by assumption)
theorem gT_head (y : W64) : ∀ c, (gT y).reverse.head? = some c → c ≠ 128 := by
 rw [gT]
 split
 ·intro c h; simp at h
 ·rename_i h
  intro c hc
  rw [List.reverse_cons, List.head?_append] at hc
  have hb := b7_nat y
  cases hr : (gT (y >>> 7)).reverse.head? with
  | some d =>
   rw [hr] at hc
   simp at hc
   subst hc
   exact gT_head (y >>> 7) d hr
  | none =>
   rw [hr] at hc
   simp at hc
   have hz : gT (y >>> 7) = [] := by simpa using hr
   have hy0 : y >>> 7 = 0 := Classical.byContradiction fun hq => by rw [gT_some hq] at hz; cases hz
   have hs : (y >>> 7).toNat = y.toNat / 128 := by rw [BitVec.toNat_ushiftRight, Nat.shiftRight_eq_div_pow]
   rw [hy0] at hs
   have hyn : y.toNat ≠ 0 := fun e => h (BitVec.eq_of_toNat_eq (by simpa using e))
   intro e
   have h8 := b8_nat (b7 y) (by omega)
   rw [hc, e] at h8
   have : (128 : UInt8).toNat = 128 := rfl
   simp at hs
   omega
termination_by y.toNat
decreasing_by exact shr7_lt (by assumption)
theorem numR_putU (x : W64) (r : List UInt8) : numR (putU x ++ r) = (x, (putU x).length) := by
 have hb := b7_nat x
 have hs : (x >>> 7).toNat = x.toNat / 128 := by rw [BitVec.toNat_ushiftRight, Nat.shiftRight_eq_div_pow]
 have hlt : (x >>> 7).toNat < 2 ^ 57 := by have := x.isLt; omega
 obtain ⟨h1, h2⟩ := gT_fold (x >>> 7) hlt
 rw [putU_eq, numR, List.append_assoc, numGo_app _ 0 0 (x >>> 7) _ (fun c hc => gT_ge _ c (by simpa using hc)) (fun _ => gT_head _) (fun j hj => h2 j (by simpa using hj)) h1]
 rw [List.singleton_append, numGo, if_neg, if_pos (by omega)]
 ·have e : grp (x >>> 7) (b7 x) = x := by
   apply BitVec.eq_of_toNat_eq
   rw [grp_nat hlt, hs]; omega
  rw [e]; simp
 ·intro e
  rw [Bool.or_eq_true, Bool.and_eq_true] at e
  rcases e with ⟨_, e2⟩ | e
  ·have : b7 x = 128 := by simpa using e2
   rw [this] at hb
   have : (128 : UInt8).toNat = 128 := rfl
   omega
  ·have := of_decide_eq_true e; omega
theorem numC (k : Nat) (c : UInt8) (y : W64) : (((k : Int) == 0 && (c.toNat : Int) == 128) || decide ((144115188075855871 : Int) < (y.toNat : Int))) = ((k == 0 && c == 128) || decide (144115188075855871 < y.toNat)) := by
 have e1 : ((k : Int) == 0) = (k == 0) := by rw [Bool.eq_iff_iff]; simp
 have e2 : ((c.toNat : Int) == 128) = (c == 128) := by
  rw [Bool.eq_iff_iff, beq_iff_eq, beq_iff_eq, ← UInt8.toNat_inj]
  have : (128 : UInt8).toNat = 128 := rfl
  omega
 have e3 : decide ((144115188075855871 : Int) < (y.toNat : Int)) = decide (144115188075855871 < y.toNat) := by
  rw [Bool.eq_iff_iff, decide_eq_true_iff, decide_eq_true_iff]; omega
 rw [e1, e2, e3]
theorem drop_cons {l : List UInt8} {k : Nat} (h : k < l.length) : l.drop k = l.getD k 0 :: l.drop (k + 1) := by
 have e : l[k] = l.getD k 0 := by simp [List.getD, h]
 rw [← e]; exact List.drop_eq_getElem_cons h
theorem numGo_bad {l : List UInt8} {k : Nat} {v : W64} (h : k < l.length) (hb : ((k == 0 && l.getD k 0 == 128) || decide (144115188075855871 < v.toNat)) = true) : numGo k v (l.drop k) = (0, 0) := by
 rw [drop_cons h, numGo, if_pos hb]
theorem numGo_stop {l : List UInt8} {k : Nat} {v : W64} (h : k < l.length) (hb : ¬ ((k == 0 && l.getD k 0 == 128) || decide (144115188075855871 < v.toNat)) = true) (hs : (l.getD k 0).toNat < 128) : numGo k v (l.drop k) = (grp v (l.getD k 0), k + 1) := by
 rw [drop_cons h, numGo, if_neg hb, if_pos hs]
theorem numGo_on {l : List UInt8} {k : Nat} {v : W64} (h : k < l.length) (hb : ¬ ((k == 0 && l.getD k 0 == 128) || decide (144115188075855871 < v.toNat)) = true) (hs : ¬ (l.getD k 0).toNat < 128) : numGo k v (l.drop k) = numGo (k + 1) (grp v (l.getD k 0)) (l.drop (k + 1)) := by
 rw [drop_cons h, numGo, if_neg hb, if_neg hs]
abbrev RSt := List UInt8 × Int
def failS (s : RSt) (e : Int) : RSt := if (s.2 == 0) = true then (s.1, e) else s
def refS (s : RSt) (bad : Bool) (e : Int) : RSt := if bad = true then failS s e else s
def uintS (s : RSt) (most : W64) : RSt × W64 := if (s.2 == 0) = true then (if (numR s.1).2 = 0 then ((s.1, 6), 0) else if most.toNat < (numR s.1).1.toNat then ((s.1, 2), 0) else ((s.1.drop (numR s.1).2, s.2), (numR s.1).1)) else (s, 0)
theorem uintS_le (s : RSt) (most : W64) : (uintS s most).2.toNat ≤ most.toNat := by
 unfold uintS
 split
 ·split
  ·simp
  split
  ·simp
  ·simp only; omega
 ·simp
def countS (s : RSt) (most : Nat) : RSt × Nat := if (s.2 == 0) = true then (if (numR s.1).2 = 0 then ((s.1, 6), 0) else if most < (numR s.1).1.toNat then ((s.1, 3), 0) else ((s.1.drop (numR s.1).2, s.2), (numR s.1).1.toNat)) else (s, 0)
def bytesS (s : RSt) (most : Nat) : RSt × List UInt8 := if (s.2 == 0) = true then (if (numR s.1).2 = 0 then ((s.1, 6), []) else if most < (numR s.1).1.toNat then ((s.1, 3), []) else if s.1.length - (numR s.1).2 < (numR s.1).1.toNat then ((s.1, 6), []) else ((s.1.drop ((numR s.1).2 + (numR s.1).1.toNat), s.2), (s.1.drop (numR s.1).2).take (numR s.1).1.toNat)) else (s, [])
def flagS (s : RSt) : RSt × Bool := if (s.2 == 0) = true then (if s.1 = [] ∨ 1 < (s.1.getD 0 0).toNat then ((s.1, 6), false) else ((s.1.drop 1, s.2), s.1.getD 0 0 == 1)) else (s, false)
def endS (s : RSt) : Int := if (s.2 == 0) = true ∧ s.1 ≠ [] then 6 else s.2
theorem flag_eq (c : UInt8) : ((c.toNat : Int) == 1) = (c == 1) := by
 rw [Bool.eq_iff_iff, beq_iff_eq, beq_iff_eq, ← UInt8.toNat_inj]
 have : (1 : UInt8).toNat = 1 := rfl
 omega
end Go.Lx
/- The bytes of grants; the order of grants does not matter: plain law. Nothing of a program stands here. -/
namespace Go.Lx
open Go
theorem JX (l : List UInt8) : (putB l).length ≤ 11 + l.length := by
 rw [putB, List.length_append]
 have := J7 (BitVec.ofNat 64 l.length); omega
end Go.Lx
/- Reading grants back: plain law. Nothing of a program stands here. -/
namespace Go.Lx
open Go
theorem bytesS_len (s : RSt) (most : Nat) : (bytesS s most).2.length ≤ most := by
 unfold bytesS
 split
 ·split
  ·simp
  split
  ·simp
  split
  ·simp
  ·simp only [List.length_take]; omega
 ·simp
theorem uintS_put {x most : W64} {r : List UInt8} (h : x.toNat ≤ most.toNat) : uintS (putU x ++ r, 0) most = ((r, 0), x) := by
 have hn : (putU x).length ≠ 0 := by rw [putU_eq]; simp
 rw [uintS, if_pos (show ((0 : Int) == 0) = true from rfl)]
 simp only [numR_putU]
 rw [if_neg hn, if_neg (by omega), List.drop_left]
theorem countS_put {x : W64} {most : Nat} {r : List UInt8} (h : x.toNat ≤ most) : countS (putU x ++ r, 0) most = ((r, 0), x.toNat) := by
 have hn : (putU x).length ≠ 0 := by rw [putU_eq]; simp
 rw [countS, if_pos (show ((0 : Int) == 0) = true from rfl)]
 simp only [numR_putU]
 rw [if_neg hn, if_neg (by omega), List.drop_left]
theorem bytesS_put {l r : List UInt8} {most : Nat} (h : l.length ≤ most) (h2 : l.length < 2 ^ 64) : bytesS (putB l ++ r, 0) most = ((r, 0), l) := by
 have hn : (putU (BitVec.ofNat 64 l.length)).length ≠ 0 := by rw [putU_eq]; simp
 have hv : (BitVec.ofNat 64 l.length).toNat = l.length := by rw [BitVec.toNat_ofNat]; exact Nat.mod_eq_of_lt h2
 rw [bytesS, if_pos (show ((0 : Int) == 0) = true from rfl)]
 simp only [putB, List.append_assoc, numR_putU, hv]
 rw [if_neg hn, if_neg (by omega), if_neg (by simp only [List.length_append]; omega), List.drop_left, List.take_left, ← List.drop_drop, List.drop_left, List.drop_left]
theorem flagS_put (b : Bool) (r : List UInt8) : flagS (putF b :: r, 0) = ((r, 0), b) := by
 rw [flagS, if_pos (show ((0 : Int) == 0) = true from rfl), if_neg (by cases b <;> simp [putF])]
 cases b <;> simp [putF]
theorem splitS_sum : ∀ (l : Str), l.length + 1 = ((splitS l).map fun x => x.length + 1).sum
 | [] => by simp [splitS]
 | c :: r => by
  have ih := splitS_sum r
  rw [splitS]
  split
  ·simp only [List.map_cons, List.sum_cons, List.length_cons, List.length_nil]; omega
  ·cases hr : splitS r with
   | nil => rw [hr] at ih; simp at ih
   | cons x q =>
    rw [hr] at ih
    simp only [List.map_cons, List.sum_cons, List.length_cons] at ih ⊢
    omega
theorem sum_le {l : List Str} {k : Nat} (h : ∀ x ∈ l, x.length ≤ k) : (l.map fun x => x.length + 1).sum ≤ l.length * (k + 1) := by
 induction l with
 | nil => simp
 | cons x l ih =>
  have h1 := h x (by simp); have h2 := ih (fun y hy => h y (by simp [hy]))
  simp only [List.map_cons, List.sum_cons, List.length_cons]
  rw [Nat.add_mul]; omega
theorem nmS_len {l : Str} (h : nmS l = true) : l.length ≤ 12 := by
 simp only [nmS, Bool.and_eq_true, Bool.not_eq_true', Bool.or_eq_false_iff, decide_eq_false_iff_not] at h
 omega
theorem namedS_len {l : Str} (h : namedS l = true) : l.length ≤ 12 := by
 simp only [namedS, Bool.and_eq_true, Bool.not_eq_true', Bool.or_eq_false_iff, decide_eq_false_iff_not] at h
 omega
theorem splitOk_len {p : Str} (h : splitOk p = true) : p.length ≤ 104 := by
 unfold splitOk splitP at h
 split at h
 ·rename_i e
  have : p = [47] := by simpa using e
  rw [this]; simp
 split at h
 ·simp at h
 split at h
 ·simp at h
 split at h
 ·rename_i h1 h2 h3
  have h4 := splitS_sum (p.drop 1)
  have h5 := sum_le (l := splitS (p.drop 1)) (k := 12) (fun x hx => namedS_len (List.all_eq_true.1 h3 x hx))
  have h6 : (splitS (p.drop 1)).length ≤ 8 := by omega
  have h7 : (splitS (p.drop 1)).length * (12 + 1) ≤ 8 * 13 := Nat.mul_le_mul_right _ h6
  have h8 : (p.drop 1).length = p.length - 1 := List.length_drop ..
  omega
 ·simp at h
theorem vp_sh {x : Perm} (h : Vp x) : x.act.length ≤ 12 ∧ x.path.length ≤ 104 := by
 refine ⟨nmS_len ?_, splitOk_len h.path⟩
 have := h.2
 unfold checkS at this
 cases hn : nmS x.act <;> simp [hn] at this ⊢
theorem uintS_dec (s : RSt) (most : W64) : (uintS s most).1.1.length ≤ s.1.length := by
 unfold uintS
 (repeat' split) <;> simp
theorem bytesS_dec (s : RSt) (most : Nat) : (bytesS s most).1.1.length ≤ s.1.length := by
 unfold bytesS
 (repeat' split) <;> simp
theorem flagS_dec (s : RSt) : (flagS s).1.1.length ≤ s.1.length := by
 unfold flagS
 (repeat' split) <;> simp
theorem countS_dec (s : RSt) (most : Nat) : (countS s most).1.1.length ≤ s.1.length := by
 unfold countS
 (repeat' split) <;> simp
theorem countS_le (s : RSt) (most : Nat) : (countS s most).2 ≤ most := by
 unfold countS
 split
 ·split
  ·simp
  split
  ·simp
  ·simp only; omega
 ·simp
section
variable {p : List UInt8} {N k : Nat} {s : RSt} {m : List Ent}
end
end Go.Lx
/- A number that is read from the front is written so and no other way: plain law. Nothing of a program stands here. -/
namespace Go.Lx
open Go
end Go.Lx
/- A reader of bytes in memory. Nothing of a program stands here. -/
namespace Go.Lx
open Go Go.RowKit
def PtB (v : Value) (g : Nat) : Prop := v = .pointer (some ⟨g, 0, none⟩)
theorem PtB.eq {b g : Nat} (h : PtB (.pointer (some ⟨b, 0, none⟩)) g) : g = b := by
 unfold PtB at h
 simp only [Value.pointer.injEq, Option.some.injEq, Addr.mk.injEq, and_true] at h
 exact h.symm
abbrev rdC (u : Value) (e : Int) : List Value := [u, .int .i64 e]
def Rdr (T : TypeId) (D : Nat → Prop) (w : World) (v : Value) (s : RSt) : Prop := ∃ b u, v = .pointer (some ⟨b, 0, none⟩) ∧ D b ∧ Box w b T [u, .int .i64 s.2] ∧ Rd encB 1 (fun g => D g ∧ g ≠ b) w u s.1
section
variable {T : TypeId} {D D' : Nat → Prop} {γ : Prop} {w w' : World} {v : Value} {s : RSt}
theorem Rdr.keepD (h : Rdr T D w v s) (x : Bel γ D' w w') (hd : ∀ g, g < w.heap.size → D g → ¬ D' g) : Rdr T D w' v s :=
 let ⟨b, u, h1, h2, h3, a, c, h4, h5⟩ := h
 ⟨b, u, h1, h2, h3.keep x (hd b h3.lt h2), a, c, h4, h5.keep x fun g hg hD => hd g hg hD.1⟩
theorem Rdr.ext (h : Rdr T D w v s) (x : Ext γ w w') : Rdr T D w' v s := h.keepD x fun _ _ _ => id
theorem Rdr.mono (h : Rdr T D w v s) (hd : ∀ g, g < w.heap.size → D g → D' g) : Rdr T D' w v s :=
 let ⟨b, u, h1, h2, h3, a, c, h4, h5⟩ := h
 ⟨b, u, h1, hd b h3.lt h2, h3, a, c, h4, h5.mono fun g hg hD => ⟨hd g hg hD.1, hD.2⟩⟩
theorem Rdr.weak (h : Rdr T D w v s) {w1 w2 : World} (x : Bel γ (PtB v) w1 w2) : Bel γ D w1 w2 := by
 obtain ⟨b, u, rfl, h2, _⟩ := h
 exact Bel.mono x fun g _ hg => by rw [PtB.eq hg]; exact h2
theorem Rdr.wk {P : Program} {f : Nat} {args : Array Value} {A : Value → World → Prop} {s' : RSt} (h : Rdr T D w v s) (h1 : Ok P f args w fun u w' => A u w' ∧ Rdr T D w' v s' ∧ Bel False (PtB v) w w') : Ok P f args w fun u w' => A u w' ∧ Rdr T D w' v s' ∧ Bel False D w w' :=
 h1.mono fun _ _ ⟨a, b, c⟩ => ⟨a, b, h.weak c⟩
theorem Rdr.ptr (h : Rdr T D w v s) : ∃ b, v = .pointer (some ⟨b, 0, none⟩) := let ⟨b, _, h1, _⟩ := h; ⟨b, h1⟩
theorem Rdr.open {b : Nat} (h : Rdr T D w (.pointer (some ⟨b, 0, none⟩)) s) : ∃ a c, Box w b T [.slice a s.1.length c, .int .i64 s.2] ∧ Sl encB 1 (fun g => D g ∧ g ≠ b) w a c s.1 := by
 obtain ⟨b', u, h1, h2, h3, a, c, rfl, h5⟩ := h
 simp only [Value.pointer.injEq, Option.some.injEq, Addr.mk.injEq, and_true] at h1
 subst h1
 exact ⟨a, c, h3, h5⟩
end
theorem JS {s : RSt} {b : Bool} {e : Int} (h : b = false) : refS s b e = s := by rw [refS, h]; rfl
theorem JV {s : RSt} {b : Bool} {e : Int} (h : b = true) (hok : (s.2 == 0) = true) : refS s b e = (s.1, e) := by rw [refS, if_pos h, failS, if_pos hok]
section
variable {P : Program} {fr : Fr} {w : World} {d : Option Nat} {t : TypeId} {ps : String} {af : Array Edge} {g : Option (Nat × Bool)} {x y : Operand} {T U : TypeId}
end
end Go.Lx
/- The bytes of a set of ops, written and read: plain law. Nothing of a program stands here. -/
namespace Go.Lx
open Go
def permB (p : Perm) : List UInt8 := putB p.act ++ putB p.path ++ [putF p.deep]
def opB (o : COp) : List UInt8 := [putF o.add] ++ putU (iW o.k) ++ putU (iW o.a) ++ putU (iW o.b) ++ putU (iW o.u) ++ (if o.k = 2 then permB o.p else [])
def obytesK (X : List COp) (k : Nat) : List UInt8 := putU (BitVec.ofNat 64 X.length) ++ (X.take k).flatMap opB
def obytes (X : List COp) : List UInt8 := putU (BitVec.ofNat 64 X.length) ++ X.flatMap opB
theorem obytesK_zero (X : List COp) : obytesK X 0 = putU (BitVec.ofNat 64 X.length) := by simp [obytesK]
theorem obytesK_end {X : List COp} {k : Nat} (h : X.length ≤ k) : obytesK X k = obytes X := by rw [obytesK, List.take_of_length_le h, obytes]
theorem obytesK_succ {X : List COp} {k : Nat} (h : k < X.length) : obytesK X (k + 1) = obytesK X k ++ opB (X.getD k coz) := by
 have e : X[k] = X.getD k coz := by simp [List.getD, h]
 rw [obytesK, obytesK, List.take_succ_eq_append_getElem h, List.flatMap_append, e]
 simp [List.append_assoc]
def rdN (s : RSt) (most : Nat) : RSt × Int := ((uintS s (BitVec.ofNat 64 most)).1, ((uintS s (BitVec.ofNat 64 most)).2.toNat : Int))
def rdP (n : Nat) (s : RSt) : RSt × Perm :=
 ((flagS (bytesS (bytesS s n).1 n).1).1, ⟨(bytesS s n).2, (bytesS (bytesS s n).1 n).2, (flagS (bytesS (bytesS s n).1 n).1).2⟩)
def rd5 (s : RSt) : RSt × COp :=
 let f := flagS s
 let k := rdN f.1 3
 let a := rdN k.1 256
 let b := rdN a.1 63
 let u := rdN b.1 30000
 (u.1, ⟨f.2, k.2, a.2, b.2, u.2, pz⟩)
def rdO (n : Nat) (s : RSt) : RSt × COp := if (rd5 s).2.k = 2 then ((rdP n (rd5 s).1).1, { (rd5 s).2 with p := (rdP n (rd5 s).1).2 }) else rd5 s
def rdOs (n : Nat) : Nat → RSt → List COp → RSt × List COp
 | 0, s, l => (s, l)
 | m + 1, s, l => if s.2 ≠ 0 then (s, l) else rdOs n m (rdO n s).1 (l ++ [(rdO n s).2])
def rdAll (p : List UInt8) : RSt × List COp := rdOs p.length (countS (p, 0) p.length).2 (countS (p, 0) p.length).1 []
def okR (p : List UInt8) : Prop := endS (rdAll p).1 = 0 ∧ (ofO (rdAll p).2).2 = 0 ∧ (ofO (rdAll p).2).1 = (rdAll p).2
theorem rdN_put {i : Int} {most : Nat} (h0 : 0 ≤ i) (h1 : i ≤ most) (hm : most < 2 ^ 64) (r : List UInt8) : rdN (putU (iW i) ++ r, 0) most = ((r, 0), i) := by
 have hi : (iW i).toNat = i.toNat := by rw [iW, BitVec.toNat_ofNat]; exact Nat.mod_eq_of_lt (by omega)
 have h2 : (BitVec.ofNat 64 most : W64).toNat = most := by rw [BitVec.toNat_ofNat]; exact Nat.mod_eq_of_lt hm
 unfold rdN
 rw [uintS_put (by rw [hi, h2]; omega), hi]
 simp only [Int.toNat_of_nonneg h0]
theorem rdP_put {p : Perm} {n : Nat} (h1 : p.act.length ≤ n) (h2 : p.path.length ≤ n) (h : p.ok) (r : List UInt8) : rdP n (permB p ++ r, 0) = ((r, 0), p) := by
 have h3 := h.1; have h4 := h.2
 unfold rdP permB
 simp only [List.append_assoc, List.singleton_append]
 rw [bytesS_put h1 (by omega)]
 simp only
 rw [bytesS_put h2 (by omega)]
 simp only
 rw [flagS_put]
theorem rd5_put {o : COp} (h : 0 ≤ o.k ∧ o.k ≤ 3 ∧ 0 ≤ o.a ∧ o.a ≤ 256 ∧ 0 ≤ o.b ∧ o.b ≤ 63 ∧ 0 ≤ o.u ∧ o.u ≤ 30000) (r : List UInt8) : rd5 ([putF o.add] ++ putU (iW o.k) ++ putU (iW o.a) ++ putU (iW o.b) ++ putU (iW o.u) ++ r, 0) = ((r, 0), { o with p := pz }) := by
 obtain ⟨k0, k1, a0, a1, b0, b1, u0, u1⟩ := h
 unfold rd5
 simp only [List.append_assoc, List.singleton_append, List.cons_append, List.nil_append]
 rw [flagS_put]
 simp only
 rw [rdN_put k0 (by omega) (by decide)]
 simp only
 rw [rdN_put a0 (by omega) (by decide)]
 simp only
 rw [rdN_put b0 (by omega) (by decide)]
 simp only
 rw [rdN_put u0 (by omega) (by decide)]
theorem rdO_put {o : COp} {n : Nat} (hv : Vo o) (h1 : o.p.act.length ≤ n) (h2 : o.p.path.length ≤ n) (hz : o.k ≠ 2 → o.p = pz) (r : List UInt8) : rdO n (opB o ++ r, 0) = ((r, 0), o) := by
 have hr := hv.rng
 have e := rd5_put (o := o) (by omega) ((if o.k = 2 then permB o.p else []) ++ r)
 unfold rdO opB
 rw [List.append_assoc, e]
 by_cases hk : o.k = 2
 ·simp only [if_pos hk]
  rw [rdP_put h1 h2 hv.ok]
 ·simp only [if_neg hk, List.nil_append]
  rw [← hz hk]
theorem Vo.pz {o : COp} (h : Vo o) (hk : o.k ≠ 2) : o.p = Go.Lx.pz := Classical.byContradiction fun hn => by
 have h1 := h.chk; have hr := h.rng
 unfold checkO at h1
 rw [if_neg (by omega), if_pos (.inl ⟨hk, hn⟩)] at h1; omega
theorem opB_lens {o : COp} (hk : o.k = 2) : o.p.act.length ≤ (opB o).length ∧ o.p.path.length ≤ (opB o).length := by
 unfold opB permB putB
 simp only [if_pos hk, List.length_append]; omega
theorem rdOs_put {n : Nat} : ∀ {X l : List COp}, (∀ o ∈ X, Vo o) → (∀ o ∈ X, o.k = 2 → o.p.act.length ≤ n ∧ o.p.path.length ≤ n) → rdOs n X.length (X.flatMap opB, 0) l = (([], 0), l ++ X)
 | [], l, _, _ => by simp [rdOs]
 | o :: X, l, hv, hn => by
  have ho := hv o (by simp)
  have e1 := rdO_put (n := n) ho (by by_cases hk : o.k = 2; exact (hn o (by simp) hk).1; rw [ho.pz hk]; exact Nat.zero_le _) (by by_cases hk : o.k = 2; exact (hn o (by simp) hk).2; rw [ho.pz hk]; exact Nat.zero_le _) ho.pz (X.flatMap opB)
  rw [List.length_cons, rdOs, List.flatMap_cons, if_neg (by simp), e1]
  rw [rdOs_put (fun o h => hv o (by simp [h])) (fun o h => hn o (by simp [h]))]
  simp
theorem rdAll_put {X : List COp} (hv : ∀ o ∈ X, Vo o) (hl : X.length < 2 ^ 64) : rdAll (obytes X) = (([], 0), X) := by
 have h64 : (BitVec.ofNat 64 X.length).toNat = X.length := by rw [BitVec.toNat_ofNat]; exact Nat.mod_eq_of_lt hl
 have hle : X.length ≤ (obytes X).length := by
  have : ∀ l : List COp, l.length ≤ (l.flatMap opB).length := fun l => by
   induction l with
   | nil => exact Nat.le_refl _
   | cons o l ih =>
    have : 1 ≤ (opB o).length := by unfold opB; simp only [List.length_append, List.length_singleton]; omega
    rw [List.flatMap_cons, List.length_append, List.length_cons]; omega
  unfold obytes
  rw [List.length_append]
  have := this X; omega
 have e : countS (obytes X, 0) (obytes X).length = ((X.flatMap opB, 0), X.length) := by
  conv => lhs; arg 1; rw [obytes]
  rw [countS_put (by rw [h64]; exact hle), h64]
 unfold rdAll
 rw [e]
 simp only
 rw [rdOs_put hv (fun o ho hk => ?_)]
 ·rfl
 ·have h1 := opB_lens hk
  have h2 : (opB o).length ≤ (X.flatMap opB).length := by
   obtain ⟨A, B, rfl⟩ := List.append_of_mem ho
   simp only [List.flatMap_append, List.flatMap_cons, List.length_append]; omega
  have h3 : (X.flatMap opB).length ≤ (obytes X).length := by unfold obytes; rw [List.length_append]; omega
  omega
theorem okR_put {X : List COp} (h : VS X) (hl : X.length < 2 ^ 64) : okR (obytes X) ∧ (rdAll (obytes X)).2 = X := by
 have e := rdAll_put h.v hl
 unfold okR
 rw [e, h.of]
 exact ⟨⟨by simp [endS], rfl, rfl⟩, rfl⟩
theorem rdOs_stop {n m : Nat} {s : RSt} {l : List COp} (h : (decide ((0 : Int) < (m : Int)) && (s.2 == 0)) = false) : rdOs n m s l = (s, l) := by
 cases m with
 | zero => rfl
 | succ m =>
  rw [rdOs, if_pos]
  intro e
  rw [decide_eq_true (by omega), e] at h
  cases h
theorem rdOs_go {n m : Nat} {s : RSt} {l : List COp} (h : s.2 = 0) : rdOs n (m + 1) s l = rdOs n m (rdO n s).1 (l ++ [(rdO n s).2]) := by rw [rdOs, if_neg (by simpa using h)]
theorem rdN_dec (s : RSt) (most : Nat) : (rdN s most).1.1.length ≤ s.1.length := uintS_dec _ _
theorem rd5_dec (s : RSt) : (rd5 s).1.1.length ≤ s.1.length := by
 have h1 := flagS_dec s; have h2 := rdN_dec (flagS s).1 3; have h3 := rdN_dec (rdN (flagS s).1 3).1 256; have h4 := rdN_dec (rdN (rdN (flagS s).1 3).1 256).1 63; have h5 := rdN_dec (rdN (rdN (rdN (flagS s).1 3).1 256).1 63).1 30000
 show (rdN (rdN (rdN (rdN (flagS s).1 3).1 256).1 63).1 30000).1.1.length ≤ _
 omega
theorem rdP_dec (n : Nat) (s : RSt) : (rdP n s).1.1.length ≤ s.1.length := by
 have h1 := bytesS_dec s n; have h2 := bytesS_dec (bytesS s n).1 n; have h3 := flagS_dec (bytesS (bytesS s n).1 n).1
 show (flagS _).1.1.length ≤ _
 omega
theorem rdO_dec (n : Nat) (s : RSt) : (rdO n s).1.1.length ≤ s.1.length := by
 unfold rdO
 split
 ·have h1 := rd5_dec s; have h2 := rdP_dec n (rd5 s).1
  show (rdP n (rd5 s).1).1.1.length ≤ _
  omega
 ·exact rd5_dec s
theorem rdN_rng (s : RSt) (most : Nat) (hm : most < 2 ^ 64) : 0 ≤ (rdN s most).2 ∧ (rdN s most).2 ≤ most := by
 have h := uintS_le s (BitVec.ofNat 64 most)
 have h2 : (BitVec.ofNat 64 most : W64).toNat = most := by rw [BitVec.toNat_ofNat]; exact Nat.mod_eq_of_lt hm
 rw [h2] at h
 exact ⟨Int.natCast_nonneg _, by show ((uintS s (BitVec.ofNat 64 most)).2.toNat : Int) ≤ _; omega⟩
theorem rdO_pok (n : Nat) (s : RSt) (hn : n ≤ 1000000) : (rdO n s).2.p.ok := by
 unfold rdO
 split
 ·exact ⟨Nat.le_trans (bytesS_len _ _) hn, Nat.le_trans (bytesS_len _ _) hn⟩
 ·exact ⟨Nat.zero_le _, Nat.zero_le _⟩
end Go.Lx
/- Numbers as the reference writes them; arrays of four. Nothing of a program stands here. -/
namespace Go.Lx
open Go Go.RowKit
theorem shr_of {n : Nat} (h : n < 2 ^ 64) : (BitVec.ofNat 64 n) >>> 7 = BitVec.ofNat 64 (n / 128) := by
 apply BitVec.eq_of_toNat_eq
 rw [BitVec.toNat_ushiftRight, Nat.shiftRight_eq_div_pow, BitVec.toNat_ofNat, BitVec.toNat_ofNat, Nat.mod_eq_of_lt h, Nat.mod_eq_of_lt (by omega)]
theorem b7_of {n : Nat} (h : n < 2 ^ 64) : (b7 (BitVec.ofNat 64 n)).toNat = n % 128 := by
 rw [b7_nat, BitVec.toNat_ofNat, Nat.mod_eq_of_lt h]
theorem wrap_b7 {n : Nat} (h : n < 2 ^ 64) : IntKind.u8.wrap ((n % 128 : Nat) : Int) = ((b7 (BitVec.ofNat 64 n)).toNat : Int) := by
 rw [b7_of h]; exact wrap_k8 (by omega) (by omega)
theorem wrap_b8 {n : Nat} (h : n < 2 ^ 64) : IntKind.u8.wrap ((128 + n % 128 : Nat) : Int) = ((b7 (BitVec.ofNat 64 n) ||| 128).toNat : Int) := by
 rw [b8_nat _ (by rw [b7_of h]; omega), b7_of h, Nat.add_comm]; exact wrap_k8 (by omega) (by omega)
theorem wrap_kk {i : Int} (h : 0 ≤ i ∧ i < 128) : IntKind.u8.wrap i = ((UInt8.ofNat i.toNat).toNat : Int) := by
 rw [wrap_k8 h.1 (by omega)]; simp; omega
theorem Bel.exK {β : Prop} {D : Nat → Prop} {w w' : World} (x : Bel β D w w') (h : ∀ b, b < w.heap.size → D b → w'.heap[b]? = w.heap[b]?) : Ext β w w' :=
 ⟨x.os, x.tape, x.output, x.size, fun b hb _ => (Classical.em (D b)).elim (h b hb) (x.block b hb), x.drawn⟩
theorem gT_on {m : Nat} {l : List UInt8} {x : List UInt8} (h0 : 0 < m) (h : m < 2 ^ 64) (hI : (gT (BitVec.ofNat 64 m)).reverse ++ l = x) : (gT (BitVec.ofNat 64 (m / 128))).reverse ++ ([b7 (BitVec.ofNat 64 m) ||| 128] ++ l) = x := by
 have hn : BitVec.ofNat 64 m ≠ 0 := fun e => by
  have := congrArg BitVec.toNat e
  rw [BitVec.toNat_ofNat, Nat.mod_eq_of_lt h] at this
  have h2 : (0 : W64).toNat = 0 := rfl
  omega
 rw [gT_some hn, List.reverse_cons, shr_of h, List.append_assoc] at hI
 exact hI
theorem putU_of {n : Nat} (h : n < 2 ^ 64) : (gT (BitVec.ofNat 64 (n / 128))).reverse ++ [b7 (BitVec.ofNat 64 n)] = putU (BitVec.ofNat 64 n) := by rw [putU_eq, shr_of h]
theorem gT_z : gT (BitVec.ofNat 64 0) = [] := gT_zero
section
variable {P : Program} {fr : Fr} {w : World} {d : Option Nat} {t : TypeId} {ps : String} {af : Array Edge} {g : Option (Nat × Bool)} {x y : Operand} {T e : TypeId} {a b c f : Int} {k : Nat}
theorem o_idx4 (hT : P.underlying T = some (.array 4 e)) (ha : ∀ w, (isAgg e).run P w = .ok false w) (hs : ∀ w, (sizeOf e).run P w = .ok 1 w) (hx : ev fr x = .agg #[.int .i64 a, .int .i64 b, .int .i64 c, .int .i64 f]) (hy : ev fr y = .int .i64 (k : Int)) (hk : k < 4) : xop P fr w ⟨d, .index T x y, t, ps, af, g⟩ = .ok (.value (.int .i64 (([a, b, c, f] : List Int).getD k 0))) w := by
 match k, hk with
 | 0, _ => simp [xop, execOp, hx, hy, Instr.index, run_underlying hT, asIntOf, part, ha, hs]
 | 1, _ => simp [xop, execOp, hx, hy, Instr.index, run_underlying hT, asIntOf, part, ha, hs]
 | 2, _ => simp [xop, execOp, hx, hy, Instr.index, run_underlying hT, asIntOf, part, ha, hs]
 | 3, _ => simp [xop, execOp, hx, hy, Instr.index, run_underlying hT, asIntOf, part, ha, hs]
end
def numsB (l : List Int) : List UInt8 := l.flatMap fun i => putU (iW i)
theorem numsB_succ {l : List Int} {k : Nat} (h : k < l.length) : numsB (l.take (k + 1)) = numsB (l.take k) ++ putU (iW (l.getD k 0)) := by
 have e : l.getD k 0 = l[k] := by simp [List.getD, h]
 unfold numsB
 rw [List.take_succ_eq_append_getElem h, List.flatMap_append, e]; simp
theorem numsB_len (l : List Int) : (numsB l).length ≤ 11 * l.length := by
 induction l with
 | nil => simp [numsB]
 | cons i l ih =>
  have h := J7 (iW i)
  unfold numsB at ih ⊢
  rw [List.flatMap_cons, List.length_append, List.length_cons]; omega
theorem opB_nums (o : COp) : opB o = [putF o.add] ++ numsB [o.k, o.a, o.b, o.u] ++ (if o.k = 2 then permB o.p else []) := by
 simp [opB, numsB, List.append_assoc]
theorem putU_small {i : Int} (h : 0 ≤ i ∧ i < 128) : putU (iW i) = [UInt8.ofNat i.toNat] := by
 have h1 : (iW i) >>> 7 = 0 := by
  rw [iW, shr_of (by omega), show i.toNat / 128 = 0 by omega]; rfl
 rw [putU_eq, h1, gT_zero]
 have : b7 (iW i) = UInt8.ofNat i.toNat := by
  rw [← UInt8.toNat_inj, iW, b7_of (by omega)]
  simp; omega
 rw [this]; rfl
theorem opB_ref {o : COp} (h : 0 ≤ o.k ∧ o.k < 128) : opB o = [putF o.add, UInt8.ofNat o.k.toNat] ++ numsB [o.a, o.b, o.u] ++ (if o.k = 2 then permB o.p else []) := by
 simp [opB, numsB, putU_small h, List.append_assoc]
theorem Vo.sh2 {o : COp} (h : Vo o) : o.p.act.length ≤ 12 ∧ o.p.path.length ≤ 104 := by
 rcases h.perm with e | e
 ·rw [e]; exact ⟨by decide, by decide⟩
 ·exact vp_sh e
theorem opB_sh {o : COp} (h : Vo o) : (opB o).length ≤ 200 := by
 have h1 := J7 (iW o.k); have h2 := J7 (iW o.a); have h3 := J7 (iW o.b); have h4 := J7 (iW o.u)
 have h5 := JX o.p.act; have h6 := JX o.p.path; have h7 := h.sh2
 have h9 : (if o.k = 2 then permB o.p else []).length ≤ 140 := by
  split
  ·unfold permB; simp only [List.length_append, List.length_singleton]; omega
  ·exact Nat.zero_le _
 unfold opB
 simp only [List.length_append, List.length_singleton]; omega
theorem fmO_sh {X : List COp} (h : ∀ o ∈ X, Vo o) : (X.flatMap opB).length ≤ 200 * X.length := by
 induction X with
 | nil => simp
 | cons o X ih =>
  rw [List.flatMap_cons, List.length_append, List.length_cons]
  have h1 := opB_sh (h o (by simp)); have h2 := ih (fun e he => h e (by simp [he])); omega
theorem obytesK_sh {X : List COp} (h : ∀ o ∈ X, Vo o) (k : Nat) : (obytesK X k).length ≤ 11 + 200 * X.length := by
 rw [obytesK, List.length_append]
 have h1 := J7 (BitVec.ofNat 64 X.length)
 have h2 := fmO_sh (X := X.take k) (fun e he => h e (List.mem_of_mem_take he))
 have h3 : (X.take k).length ≤ X.length := by simp; omega
 have h4 : 200 * (X.take k).length ≤ 200 * X.length := Nat.mul_le_mul_left _ h3
 omega
theorem obytes_sh {X : List COp} (h : ∀ o ∈ X, Vo o) : (obytes X).length ≤ 11 + 200 * X.length := by
 have := obytesK_sh h X.length
 rwa [obytesK_end (Nat.le_refl _)] at this
end Go.Lx
/- Numerals and lines in general. Nothing of a program stands here, but the name of a table. -/
namespace Go.Lx
open Go Go.RowKit
theorem grow_ext (w : World) (k : Nat) (os : Array Obj) : Ext False w (Sort.grow (w.drewN k) os) := by
 refine ⟨?_, ?_, ?_, ?_, fun b hb _ => ?_, fun h => h.elim⟩
 ·simp [Sort.grow, World.drewN]
 ·simp [Sort.grow, World.drewN]
 ·simp [Sort.grow, World.drewN]
 ·simp [Sort.grow, World.drewN]
 ·simp [Sort.grow, World.drewN, Array.getElem?_append, hb]
theorem dig_len5 {n : Int} (h : n < 100000) : (dig n).length ≤ 5 := by
 unfold dig
 rw [Lib.decDigits_length]
 have key : ∀ (k u : Nat), u < 10 ^ (k + 1) → Lib.nDigits u ≤ k + 1 := by
  intro k
  induction k with
  | zero => intro u hu; rw [Lib.nDigits_small (by omega)]; exact Nat.le_refl 1
  | succ k ih =>
   intro u hu
   by_cases h1 : u < 10
   ·rw [Lib.nDigits_small h1]; omega
   ·have := ih (u / 10) (by rw [Nat.pow_succ] at hu; omega)
    rw [Lib.nDigits_big h1]; omega
 exact key 4 n.toNat (by omega)
theorem Yc {o : COp} {n : Int → Str} {t : Perm → Str} (h1 : (n o.a).length ≤ 5) (h2 : (n o.b).length ≤ 5) (h3 : (n o.u).length ≤ 5) (h4 : (t o.p).length ≤ 2000003) : (lineO o n t).length ≤ 3000000 := by
 have hs : (if o.add then ([43, 32] : Str) else [45, 32]).length = 2 := by split <;> rfl
 unfold lineO
 rw [List.length_append, hs]
 by_cases k1 : o.k = 1
 ·rw [if_pos k1]; simp only [List.length_append, List.length_cons, List.length_nil]; omega
 ·rw [if_neg k1]
  by_cases k2 : o.k = 2
  ·rw [if_pos k2]; simp only [List.length_append, List.length_cons, List.length_nil]; omega
  ·rw [if_neg k2]; simp only [List.length_append, List.length_cons, List.length_nil]; omega
def digL : Str := [48, 49, 50, 51, 52, 53, 54, 55, 56, 57]
theorem dig_one {n : Nat} (h : n < 10) : (digL.take (n + 1)).drop n = Lib.decDigits n := by
 rw [Lib.decDigits_one h]
 have : ∀ i : Fin 10, (digL.take (i.val + 1)).drop i.val = [UInt8.ofNat (48 + i.val)] := by decide
 exact this ⟨n, h⟩
theorem dig_more {n : Nat} (h : ¬ n < 10) : Lib.decDigits n = Lib.decDigits (n / 10) ++ Lib.decDigits (n % 10) := by
 rw [Lib.decDigits, dif_neg h, Lib.decDigits_one (show n % 10 < 10 by omega)]
theorem itoa_dig {n : Int} (h : 0 ≤ n) : Lib.itoa n = dig n := by unfold Lib.itoa dig; rw [if_neg (by omega)]
theorem cf_flip {X : List COp} (h : CF X) : CF (X.map flipO) := by
 unfold CF at h ⊢
 rw [List.pairwise_map]
 refine h.imp fun {x y} q => ?_
 unfold confl at q ⊢
 have e : ((flipO x).add == (flipO y).add) = (x.add == y.add) := by
  show ((!x.add) == (!y.add)) = _
  cases x.add <;> cases y.add <;> rfl
 rw [e]; exact q
theorem inv_vo {X : List COp} (h : VS X) : ∀ x ∈ invO X, Vo x := fun x hx => by
 obtain ⟨y, hy, rfl⟩ := List.mem_map.1 ((sortO_perm _).mem_iff.1 hx)
 exact (h.v y hy).flip
theorem inv_len (X : List COp) : (invO X).length = X.length := by unfold invO; rw [sortO_len, List.length_map]
theorem tab_keep {P : Program} {γ : Prop} {D : Nat → Prop} {w w' : World} {name : String} {k : IntKind} {zs : List Int} {g : Nat} (h : Lib.TabIs P w name k zs) (hg : P.globalNamed name = some g) (x : Bel γ D w w') (hd : ¬ D g) : Lib.TabIs P w' name k zs := by
 unfold Lib.TabIs World.var? at h ⊢
 rw [hg] at h ⊢
 simp only [Option.bind_some] at h ⊢
 have hlt : g < w.heap.size := by
  refine Nat.lt_of_not_le fun hn => ?_
  rw [Array.getElem?_eq_none hn] at h
  cases h
 rw [x.block g hlt hd]; exact h
