/- Several texts in one file. -/
import Derived.Test.YtncmjgmlnnenhaaGreatDoorHy
import Derived.Lib.ItoaNum
/- Reading numbers and byte strings from the front of bytes: plain law. Nothing of a program stands here. -/
namespace Go.Lx
open Go
set_option linter.unusedSimpArgs false
set_option linter.unusedVariables false
set_option linter.unnecessarySimpa false
def grp (v : W64) (b : UInt8) : W64 := (v <<< 7) ||| BitVec.ofNat 64 (b &&& 127).toNat
def numGo : Nat → W64 → List UInt8 → W64 × Nat
  | _, _, [] => (0, 0)
  | k, v, b :: r => if ((k == 0 && b == 128) || decide (144115188075855871 < v.toNat)) = true then (0, 0) else if b.toNat < 128 then (grp v b, k + 1) else numGo (k + 1) (grp v b) r
def numR (l : List UInt8) : W64 × Nat := numGo 0 0 l
theorem and127 (b : UInt8) : (b &&& 127).toNat = b.toNat % 128 := by
  rw [UInt8.toNat_and]
  exact Nat.and_two_pow_sub_one_eq_mod b.toNat 7
theorem grp_nat {v : W64} {b : UInt8} (h : v.toNat < 2 ^ 57) : (grp v b).toNat = v.toNat * 128 + b.toNat % 128 := by
  have h1 : (BitVec.ofNat 64 (b &&& 127).toNat).toNat = b.toNat % 128 := by
    rw [BitVec.toNat_ofNat, and127]; omega
  have h2 : (v <<< 7).toNat = v.toNat * 128 := by
    rw [BitVec.toNat_shiftLeft, Nat.shiftLeft_eq]; omega
  rw [grp, BitVec.toNat_or, h1, h2]
  have h3 := Nat.two_pow_add_eq_or_of_lt (i := 7) (b := b.toNat % 128) (by omega) v.toNat
  rw [Nat.mul_comm] at h3
  exact h3.symm
theorem numGo_le : ∀ (l : List UInt8) (k : Nat) (v : W64), (numGo k v l).2 ≤ k + l.length
  | [], k, v => by simp [numGo]
  | b :: r, k, v => by
    rw [numGo]
    split
    · simp
    split
    · simp
    · have := numGo_le r (k + 1) (grp v b)
      rw [List.length_cons]; omega
theorem numR_le (l : List UInt8) : (numR l).2 ≤ l.length := by have := numGo_le l 0 0; rw [numR]; omega
theorem numGo_app : ∀ (A : List UInt8) (k : Nat) (v y : W64) (r : List UInt8), (∀ c ∈ A, 128 ≤ c.toNat) → (k = 0 → ∀ c, A.head? = some c → c ≠ 128) → (∀ j, j < A.length → ((A.take j).foldl grp v).toNat < 2 ^ 57) → A.foldl grp v = y → numGo k v (A ++ r) = numGo (k + A.length) y r
  | [], k, v, y, r, _, _, _, h => by simp at h; subst h; rfl
  | c :: A, k, v, y, r, h1, h2, h3, h4 => by
    have hc := h1 c (by simp)
    have hv : v.toNat < 2 ^ 57 := by have := h3 0 (by simp); simpa using this
    rw [List.cons_append, numGo, if_neg, if_neg (by omega)]
    · have := numGo_app A (k + 1) (grp v c) y r (fun d hd => h1 d (by simp [hd])) (fun e => by omega) (fun j hj => by have := h3 (j + 1) (by simp; omega); simpa using this) (by simpa using h4)
      rw [this, List.length_cons]; congr 1; omega
    · intro e
      rw [Bool.or_eq_true, Bool.and_eq_true] at e
      rcases e with ⟨e1, e2⟩ | e
      · exact h2 (by simpa using e1) c rfl (by simpa using e2)
      · have := of_decide_eq_true e; omega
theorem gT_fold (y : W64) (hy : y.toNat < 2 ^ 57) : (gT y).reverse.foldl grp 0 = y ∧ ∀ j, j < (gT y).length → (((gT y).reverse.take j).foldl grp 0).toNat < 2 ^ 57 := by
  rw [gT]
  split
  · rename_i h; subst h; exact ⟨rfl, fun j hj => by simp at hj⟩
  · rename_i h
    have hlt := shr7_lt h
    have hs : (y >>> 7).toNat = y.toNat / 128 := by rw [BitVec.toNat_ushiftRight, Nat.shiftRight_eq_div_pow]
    obtain ⟨ih, ihj⟩ := gT_fold (y >>> 7) (by omega)
    have hb := b7_nat y
    refine ⟨?_, fun j hj => ?_⟩
    · rw [List.reverse_cons, List.foldl_append, ih]
      show grp (y >>> 7) (b7 y ||| 128) = y
      apply BitVec.eq_of_toNat_eq
      rw [grp_nat (by omega), b8_nat _ (by omega), hs]; omega
    · rw [List.reverse_cons]
      simp only [List.length_cons] at hj
      rcases Nat.lt_or_ge j (gT (y >>> 7)).length with h1 | h1
      · rw [List.take_append_of_le_length (by rw [List.length_reverse]; omega)]; exact ihj j h1
      · have : j = (gT (y >>> 7)).length := by omega
        subst this
        rw [List.take_append_of_le_length (by rw [List.length_reverse]; omega), List.take_of_length_le (by rw [List.length_reverse]; omega), ih]; omega
termination_by y.toNat
decreasing_by exact shr7_lt (by assumption)
theorem gT_head (y : W64) : ∀ c, (gT y).reverse.head? = some c → c ≠ 128 := by
  rw [gT]
  split
  · intro c h; simp at h
  · rename_i h
    intro c hc
    rw [List.reverse_cons, List.head?_append] at hc
    have hb := b7_nat y
    cases hr : (gT (y >>> 7)).reverse.head? with
    | some d =>
      rw [hr] at hc
      simp at hc
      subst hc
      exact gT_head (y >>> 7) d hr
    | none =>
      rw [hr] at hc
      simp at hc
      have hz : gT (y >>> 7) = [] := by simpa using hr
      have hy0 : y >>> 7 = 0 := Classical.byContradiction fun hq => by rw [gT_some hq] at hz; cases hz
      have hs : (y >>> 7).toNat = y.toNat / 128 := by rw [BitVec.toNat_ushiftRight, Nat.shiftRight_eq_div_pow]
      rw [hy0] at hs
      have hyn : y.toNat ≠ 0 := fun e => h (BitVec.eq_of_toNat_eq (by simpa using e))
      intro e
      have h8 := b8_nat (b7 y) (by omega)
      rw [hc, e] at h8
      have : (128 : UInt8).toNat = 128 := rfl
      simp at hs
      omega
termination_by y.toNat
decreasing_by exact shr7_lt (by assumption)
theorem numR_putU (x : W64) (r : List UInt8) : numR (putU x ++ r) = (x, (putU x).length) := by
  have hb := b7_nat x
  have hs : (x >>> 7).toNat = x.toNat / 128 := by rw [BitVec.toNat_ushiftRight, Nat.shiftRight_eq_div_pow]
  have hlt : (x >>> 7).toNat < 2 ^ 57 := by have := x.isLt; omega
  obtain ⟨h1, h2⟩ := gT_fold (x >>> 7) hlt
  rw [putU_eq, numR, List.append_assoc, numGo_app _ 0 0 (x >>> 7) _ (fun c hc => gT_ge _ c (by simpa using hc)) (fun _ => gT_head _) (fun j hj => h2 j (by simpa using hj)) h1]
  rw [List.singleton_append, numGo, if_neg, if_pos (by omega)]
  · have e : grp (x >>> 7) (b7 x) = x := by
      apply BitVec.eq_of_toNat_eq
      rw [grp_nat hlt, hs]; omega
    rw [e]; simp
  · intro e
    rw [Bool.or_eq_true, Bool.and_eq_true] at e
    rcases e with ⟨_, e2⟩ | e
    · have : b7 x = 128 := by simpa using e2
      rw [this] at hb
      have : (128 : UInt8).toNat = 128 := rfl
      omega
    · have := of_decide_eq_true e; omega
theorem numC (k : Nat) (c : UInt8) (y : W64) : (((k : Int) == 0 && (c.toNat : Int) == 128) || decide ((144115188075855871 : Int) < (y.toNat : Int))) = ((k == 0 && c == 128) || decide (144115188075855871 < y.toNat)) := by
  have e1 : ((k : Int) == 0) = (k == 0) := by rw [Bool.eq_iff_iff]; simp
  have e2 : ((c.toNat : Int) == 128) = (c == 128) := by
    rw [Bool.eq_iff_iff, beq_iff_eq, beq_iff_eq, ← UInt8.toNat_inj]
    have : (128 : UInt8).toNat = 128 := rfl
    omega
  have e3 : decide ((144115188075855871 : Int) < (y.toNat : Int)) = decide (144115188075855871 < y.toNat) := by
    rw [Bool.eq_iff_iff, decide_eq_true_iff, decide_eq_true_iff]; omega
  rw [e1, e2, e3]
theorem drop_cons {l : List UInt8} {k : Nat} (h : k < l.length) : l.drop k = l.getD k 0 :: l.drop (k + 1) := by
  have e : l[k] = l.getD k 0 := by simp [List.getD, h]
  rw [← e]; exact List.drop_eq_getElem_cons h
theorem numGo_bad {l : List UInt8} {k : Nat} {v : W64} (h : k < l.length) (hb : ((k == 0 && l.getD k 0 == 128) || decide (144115188075855871 < v.toNat)) = true) : numGo k v (l.drop k) = (0, 0) := by
  rw [drop_cons h, numGo, if_pos hb]
theorem numGo_stop {l : List UInt8} {k : Nat} {v : W64} (h : k < l.length) (hb : ¬ ((k == 0 && l.getD k 0 == 128) || decide (144115188075855871 < v.toNat)) = true) (hs : (l.getD k 0).toNat < 128) : numGo k v (l.drop k) = (grp v (l.getD k 0), k + 1) := by
  rw [drop_cons h, numGo, if_neg hb, if_pos hs]
theorem numGo_on {l : List UInt8} {k : Nat} {v : W64} (h : k < l.length) (hb : ¬ ((k == 0 && l.getD k 0 == 128) || decide (144115188075855871 < v.toNat)) = true) (hs : ¬ (l.getD k 0).toNat < 128) : numGo k v (l.drop k) = numGo (k + 1) (grp v (l.getD k 0)) (l.drop (k + 1)) := by
  rw [drop_cons h, numGo, if_neg hb, if_neg hs]
abbrev RSt := List UInt8 × Int
def failS (s : RSt) (e : Int) : RSt := if (s.2 == 0) = true then (s.1, e) else s
def refS (s : RSt) (bad : Bool) (e : Int) : RSt := if bad = true then failS s e else s
def uintS (s : RSt) (most : W64) : RSt × W64 := if (s.2 == 0) = true then (if (numR s.1).2 = 0 then ((s.1, 6), 0) else if most.toNat < (numR s.1).1.toNat then ((s.1, 2), 0) else ((s.1.drop (numR s.1).2, s.2), (numR s.1).1)) else (s, 0)
theorem uintS_le (s : RSt) (most : W64) : (uintS s most).2.toNat ≤ most.toNat := by
  unfold uintS
  split
  · split
    · simp
    split
    · simp
    · simp only; omega
  · simp
def countS (s : RSt) (most : Nat) : RSt × Nat := if (s.2 == 0) = true then (if (numR s.1).2 = 0 then ((s.1, 6), 0) else if most < (numR s.1).1.toNat then ((s.1, 3), 0) else ((s.1.drop (numR s.1).2, s.2), (numR s.1).1.toNat)) else (s, 0)
def bytesS (s : RSt) (most : Nat) : RSt × List UInt8 := if (s.2 == 0) = true then (if (numR s.1).2 = 0 then ((s.1, 6), []) else if most < (numR s.1).1.toNat then ((s.1, 3), []) else if s.1.length - (numR s.1).2 < (numR s.1).1.toNat then ((s.1, 6), []) else ((s.1.drop ((numR s.1).2 + (numR s.1).1.toNat), s.2), (s.1.drop (numR s.1).2).take (numR s.1).1.toNat)) else (s, [])
def endS (s : RSt) : Int := if (s.2 == 0) = true ∧ s.1 ≠ [] then 6 else s.2
end Go.Lx
/- A reader of bytes in memory. Nothing of a program stands here. -/
namespace Go.Lx
open Go Go.RowKit
set_option linter.unusedSimpArgs false
set_option linter.unusedVariables false
def PtB (v : Value) (g : Nat) : Prop := v = .pointer (some ⟨g, 0, none⟩)
theorem PtB.eq {b g : Nat} (h : PtB (.pointer (some ⟨b, 0, none⟩)) g) : g = b := by
  unfold PtB at h
  simp only [Value.pointer.injEq, Option.some.injEq, Addr.mk.injEq, and_true] at h
  exact h.symm
abbrev rdC (u : Value) (e : Int) : List Value := [u, .int .i64 e]
def Rr (T : TypeId) (D : Nat → Prop) (w : World) (v : Value) (s : RSt) : Prop := ∃ b u, v = .pointer (some ⟨b, 0, none⟩) ∧ D b ∧ Box w b T [u, .int .i64 s.2] ∧ Rd encB 1 (fun g => D g ∧ g ≠ b) w u s.1
section
variable {T : TypeId} {D D' : Nat → Prop} {γ : Prop} {w w' : World} {v : Value} {s : RSt}
theorem Rr.keepD (h : Rr T D w v s) (x : Bel γ D' w w') (hd : ∀ g, g < w.heap.size → D g → ¬ D' g) : Rr T D w' v s :=
  let ⟨b, u, h1, h2, h3, a, c, h4, h5⟩ := h
  ⟨b, u, h1, h2, h3.keep x (hd b h3.lt h2), a, c, h4, h5.keep x fun g hg hD => hd g hg hD.1⟩
theorem Rr.ext (h : Rr T D w v s) (x : Ext γ w w') : Rr T D w' v s := h.keepD x fun _ _ _ => id
theorem Rr.mono (h : Rr T D w v s) (hd : ∀ g, g < w.heap.size → D g → D' g) : Rr T D' w v s :=
  let ⟨b, u, h1, h2, h3, a, c, h4, h5⟩ := h
  ⟨b, u, h1, hd b h3.lt h2, h3, a, c, h4, h5.mono fun g hg hD => ⟨hd g hg hD.1, hD.2⟩⟩
theorem Rr.weak (h : Rr T D w v s) {w1 w2 : World} (x : Bel γ (PtB v) w1 w2) : Bel γ D w1 w2 := by
  obtain ⟨b, u, rfl, h2, _⟩ := h
  exact Bel.mono x fun g _ hg => by rw [PtB.eq hg]; exact h2
theorem Rr.wk {P : Program} {f : Nat} {args : Array Value} {A : Value → World → Prop} {s' : RSt} (h : Rr T D w v s) (h1 : Ok P f args w fun u w' => A u w' ∧ Rr T D w' v s' ∧ Bel False (PtB v) w w') : Ok P f args w fun u w' => A u w' ∧ Rr T D w' v s' ∧ Bel False D w w' :=
  h1.mono fun _ _ ⟨a, b, c⟩ => ⟨a, b, h.weak c⟩
theorem Rr.ptr (h : Rr T D w v s) : ∃ b, v = .pointer (some ⟨b, 0, none⟩) := let ⟨b, _, h1, _⟩ := h; ⟨b, h1⟩
theorem Rr.open {b : Nat} (h : Rr T D w (.pointer (some ⟨b, 0, none⟩)) s) : ∃ a c, Box w b T [.slice a s.1.length c, .int .i64 s.2] ∧ Sl encB 1 (fun g => D g ∧ g ≠ b) w a c s.1 := by
  obtain ⟨b', u, h1, h2, h3, a, c, rfl, h5⟩ := h
  simp only [Value.pointer.injEq, Option.some.injEq, Addr.mk.injEq, and_true] at h1
  subst h1
  exact ⟨a, c, h3, h5⟩
end
theorem refS_no {s : RSt} {b : Bool} {e : Int} (h : b = false) : refS s b e = s := by rw [refS, h]; rfl
theorem refS_yes {s : RSt} {b : Bool} {e : Int} (h : b = true) (hok : (s.2 == 0) = true) : refS s b e = (s.1, e) := by rw [refS, if_pos h, failS, if_pos hok]
section
variable {P : Program} {fr : Fr} {w : World} {d : Option Nat} {t : TypeId} {ps : String} {af : Array Edge} {g : Option (Nat × Bool)} {x y : Operand} {T U : TypeId}
theorem o_quoU {a b : W64} (hx : ev fr x = u64 a) (hy : ev fr y = u64 b) (hb : b ≠ 0) : xop P fr w ⟨d, .binOp .quo T x y U, t, ps, af, g⟩ = .ok (.value (u64 (a / b))) w := by
  have h0 : (b.toNat : Int) ≠ 0 := by
    intro h
    apply hb
    apply BitVec.eq_of_toNat_eq
    have : b.toNat = 0 := by omega
    rw [this]; rfl
  have hd : a.toNat / b.toNat ≤ a.toNat := Nat.div_le_self _ _
  have hl := a.isLt
  have h2 : ((a.toNat : Int) / (b.toNat : Int)) = ((a.toNat / b.toNat : Nat) : Int) := by rw [Int.natCast_ediv]
  have h1 : ¬ (b.toNat = 0) := by omega
  simp [xop, execOp, hx, hy, u64, eqGuard, binOp, Op.intDiv, h0, h1]
  rw [h2, wrapU', BitVec.toNat_ofNat, Nat.mod_eq_of_lt (by omega)]
theorem o_addB {a b : UInt8} (hx : ev fr x = .int .u8 (a.toNat : Int)) (hy : ev fr y = .int .u8 (b.toNat : Int)) : xop P fr w ⟨d, .binOp .add T x y U, t, ps, af, g⟩ = .ok (.value (.int .u8 ((a + b).toNat : Int))) w := by
  have h := o_addw (P := P) (w := w) (d := d) (t := t) (ps := ps) (af := af) (g := g) (T := T) (U := U) hx hy
  have e : IntKind.u8.wrap ((a.toNat : Int) + (b.toNat : Int)) = ((a + b).toNat : Int) := by
    have h1 : ((a.toNat : Int) + (b.toNat : Int)) = ((a.toNat + b.toNat : Nat) : Int) := by omega
    rw [h1, wrapU8, UInt8.toNat_ofNat', UInt8.toNat_add]
  rw [e] at h
  exact h
end
theorem b7_rem (x : W64) : UInt8.ofNat (x % 128#64).toNat = b7 x := by
  apply UInt8.toNat_inj.1
  have h8 : (128#64).toNat = 128 := rfl
  rw [b7_nat, UInt8.toNat_ofNat', BitVec.toNat_umod, h8]
  omega
theorem b7_add (x : W64) : UInt8.ofNat (x % 128#64).toNat + 128 = b7 x ||| 128 := by
  rw [b7_rem]
  have h := b7_nat x
  apply UInt8.toNat_inj.1
  rw [UInt8.toNat_add, b8_nat _ (by omega)]
  have : (128 : UInt8).toNat = 128 := rfl
  omega
theorem quo128 (x : W64) : x / 128#64 = x >>> 7 := by
  apply BitVec.eq_of_toNat_eq
  rw [BitVec.toNat_udiv, BitVec.toNat_ushiftRight, Nat.shiftRight_eq_div_pow]; rfl
end Go.Lx
/- Reading sets and sessions back: plain law. Nothing of a program stands here. -/
namespace Go.Lx
open Go
set_option linter.unusedSimpArgs false
set_option linter.unusedVariables false
def leN : List UInt8 → Nat
  | [] => 0
  | b :: r => b.toNat + 256 * leN r
def leW (l : List UInt8) : W64 := BitVec.ofNat 64 (leN l)
theorem leN_lt : ∀ l : List UInt8, leN l < 256 ^ l.length
  | [] => by simp [leN]
  | b :: r => by
    have h1 := leN_lt r
    have h2 := b.toNat_lt
    rw [leN, List.length_cons, Nat.pow_succ]; omega
theorem leN_snoc : ∀ (l : List UInt8) (x : UInt8), leN (l ++ [x]) = leN l + 256 ^ l.length * x.toNat
  | [], x => by simp [leN]
  | b :: r, x => by
    rw [List.cons_append, leN, leN_snoc r x, leN, List.length_cons, Nat.pow_succ]
    rw [Nat.mul_add, Nat.mul_comm (256 ^ r.length) 256, Nat.mul_assoc]; omega
theorem pow256 (n : Nat) : 256 ^ n = 2 ^ (8 * n) := by rw [show 256 = 2 ^ 8 from rfl, ← Nat.pow_mul]
theorem leW_nat {l : List UInt8} (h : l.length ≤ 8) : (leW l).toNat = leN l := by
  rw [leW, BitVec.toNat_ofNat]
  refine Nat.mod_eq_of_lt (Nat.lt_of_lt_of_le (leN_lt l) ?_)
  rw [pow256]
  exact Nat.pow_le_pow_right (by decide) (by omega)
theorem leW_snoc {l : List UInt8} {x : UInt8} (h : l.length < 8) : leW (l ++ [x]) = leW l ||| (BitVec.ofNat 64 x.toNat <<< (8 * l.length)) := by
  have hx := x.toNat_lt
  have h1 := leN_lt l
  rw [pow256] at h1
  have h2 : x.toNat * 2 ^ (8 * l.length) < 2 ^ 64 := by
    have h3 : 2 ^ (8 * l.length) ≤ 2 ^ 56 := Nat.pow_le_pow_right (by decide) (by omega)
    have h4 : x.toNat * 2 ^ (8 * l.length) ≤ 255 * 2 ^ 56 := Nat.mul_le_mul (by omega) h3
    omega
  have hz : (BitVec.ofNat 64 x.toNat).toNat = x.toNat := by rw [BitVec.toNat_ofNat]; exact Nat.mod_eq_of_lt (by omega)
  have hs : (BitVec.ofNat 64 x.toNat <<< (8 * l.length)).toNat = x.toNat * 2 ^ (8 * l.length) := by
    rw [BitVec.toNat_shiftLeft, hz, Nat.shiftLeft_eq, Nat.mod_eq_of_lt h2]
  apply BitVec.eq_of_toNat_eq
  rw [leW_nat (by simp; omega), BitVec.toNat_or, leW_nat (by omega), hs, leN_snoc, pow256, Nat.mul_comm x.toNat]
  have h5 := Nat.two_pow_add_eq_or_of_lt h1 x.toNat
  rw [Nat.or_comm] at h5
  omega
def rdW (l : List UInt8) : List W64 := (List.range ((l.length + 7) / 8)).map fun j => leW ((l.drop (8 * j)).take 8)
def badB (l : List UInt8) : Bool := decide (0 < l.length) && (l.getD (l.length - 1) 0 == 0)
structure RdI (l : List UInt8) (k : Nat) (ws : List W64) : Prop where
  len : ws.length = (l.length + 7) / 8
  get : ∀ j, j < (l.length + 7) / 8 → ws[j]? = some (leW (((l.take k).drop (8 * j)).take 8))
theorem RdI.start (l : List UInt8) : RdI l 0 (List.replicate ((l.length + 7) / 8) 0) := ⟨by simp, fun j hj => by
  rw [List.getElem?_replicate, if_pos hj]; simp [leW, leN]⟩
theorem chunk_snoc {l : List UInt8} {k j : Nat} (hk : k < l.length) : ((l.take (k + 1)).drop (8 * j)).take 8 = if j = k / 8 then ((l.take k).drop (8 * j)).take 8 ++ [l.getD k 0] else ((l.take k).drop (8 * j)).take 8 := by
  have e : l[k] = l.getD k 0 := by simp [List.getD, hk]
  have hl : (l.take k).length = k := by rw [List.length_take]; omega
  rw [List.take_succ_eq_append_getElem hk, e, List.drop_append, hl]
  split
  · rename_i h
    have h1 : 8 * j - k = 0 := by omega
    rw [h1, List.drop_zero, List.take_append, List.length_drop, hl, List.take_of_length_le (l := List.drop (8 * j) (List.take k l)) (by rw [List.length_drop, hl]; omega)]
    congr 1
    rw [List.take_of_length_le]; simp; omega
  · rename_i h
    rcases Nat.lt_or_ge j (k / 8) with h1 | h1
    · rw [List.take_append_of_le_length (by rw [List.length_drop, hl]; omega)]
    · have h2 : 8 * j - k ≥ 1 := by omega
      rw [List.drop_of_length_le (i := 8 * j - k) (by simp; omega), List.append_nil]
theorem RdI.step {l : List UInt8} {k : Nat} {ws : List W64} (h : RdI l k ws) (hk : k < l.length) : RdI l (k + 1) (ws.set (k / 8) (ws.getD (k / 8) 0 ||| (BitVec.ofNat 64 (l.getD k 0).toNat <<< (8 * (k % 8))))) := by
  have hl := h.len
  have hkj : k / 8 < (l.length + 7) / 8 := by omega
  refine ⟨by simp [hl], fun j hj => ?_⟩
  rw [List.getElem?_set, chunk_snoc hk]
  have hc : (((l.take k).drop (8 * (k / 8))).take 8).length = k % 8 := by
    rw [List.length_take, List.length_drop, List.length_take]; omega
  by_cases e : k / 8 = j
  · subst e
    rw [if_pos rfl, if_pos (by omega), if_pos rfl, leW_snoc (by omega), hc]
    have h1 := h.get _ hj
    rw [show ws.getD (k / 8) 0 = leW (((l.take k).drop (8 * (k / 8))).take 8) by rw [List.getD, h1]; rfl]
  · rw [if_neg e, if_neg (fun q => e q.symm)]; exact h.get j hj
theorem RdI.fin {l : List UInt8} {k : Nat} {ws : List W64} (h : RdI l k ws) (hk : l.length ≤ k) : ws = rdW l := by
  refine List.ext_getElem? fun j => ?_
  rw [rdW, List.getElem?_map]
  by_cases hj : j < (l.length + 7) / 8
  · rw [h.get j hj, List.getElem?_range hj, List.take_of_length_le hk]; rfl
  · rw [List.getElem?_eq_none (by rw [h.len]; omega), List.getElem?_eq_none (by simp; omega)]; rfl
theorem leN_bytes (x : W64) : ∀ n : Nat, leN ((List.range n).map (byteW x)) = x.toNat % 2 ^ (8 * n)
  | 0 => by simp [leN, Nat.mod_one]
  | n + 1 => by
    rw [List.range_succ, List.map_append, List.map_cons, List.map_nil, leN_snoc, leN_bytes x n, List.length_map, List.length_range, byteW_nat, pow256, Nat.mul_add, Nat.pow_add, Nat.mod_mul]
theorem leW_setB (x : W64) : leW (setB x) = x := by
  have hl := setB_len x
  apply BitVec.eq_of_toNat_eq
  rw [leW_nat hl]
  unfold setB
  split
  · rename_i h; subst h; rfl
  · rename_i h
    rw [leN_bytes]
    exact Nat.mod_eq_of_lt (Nat.lt_of_lt_of_le (topW_spec h).2.2 (Nat.pow_le_pow_right (by decide) (by omega)))
theorem top_low {x : W64} (h : x ≠ 0) : 2 ^ topW x ≤ x.toNat := (Lib.bitLenAux_bounds 64 x.toNat x.isLt (fun e => h (BitVec.eq_of_toNat_eq e))).2.1
theorem badB_setB (x : W64) : badB (setB x) = false := by
  unfold setB
  split
  · rfl
  · rename_i h
    have ht := topW_spec h
    have hlo := top_low h
    have hlen : ((List.range (topW x / 8 + 1)).map (byteW x)).length = topW x / 8 + 1 := by simp
    rw [badB, hlen, show topW x / 8 + 1 - 1 = topW x / 8 by omega, List.getD, List.getElem?_map, List.getElem?_range (by omega)]
    simp only [Option.map_some, Option.getD_some, Bool.and_eq_false_iff]
    right
    rw [beq_eq_false_iff_ne]
    intro e
    have hb := byteW_nat x (topW x / 8)
    rw [e] at hb
    have h0 : (0 : UInt8).toNat = 0 := rfl
    have h1 : 2 ^ (8 * (topW x / 8)) ≤ 2 ^ topW x := Nat.pow_le_pow_right (by decide) (by omega)
    have h2 : 2 ^ (topW x + 1) ≤ 2 ^ (8 * (topW x / 8)) * 256 := by
      rw [show (256 : Nat) = 2 ^ 8 from rfl, ← Nat.pow_add]; exact Nat.pow_le_pow_right (by decide) (by omega)
    have hp : 0 < 2 ^ (8 * (topW x / 8)) := Nat.pow_pos (by decide)
    have h3 : 1 ≤ x.toNat / 2 ^ (8 * (topW x / 8)) := (Nat.le_div_iff_mul_le hp).2 (by omega)
    have h4 : x.toNat / 2 ^ (8 * (topW x / 8)) < 256 := (Nat.div_lt_iff_lt_mul hp).2 (by have := ht.2.2; rw [Nat.mul_comm] at h2; omega)
    rw [Nat.mod_eq_of_lt h4, h0] at hb
    omega
theorem leN_last : ∀ (l : List UInt8), l ≠ [] → l.getD (l.length - 1) 0 ≠ 0 → leN l ≠ 0
  | [b], _, h => by
    simp at h
    rw [leN, leN]
    intro e
    exact h (UInt8.toNat_inj.1 (by have : (0 : UInt8).toNat = 0 := rfl; omega))
  | b :: c :: r, _, h => by
    have h1 := leN_last (c :: r) (by simp) (by simpa using h)
    rw [leN]; omega
def setS (s : RSt) : RSt × W64 :=
  if (s.2 == 0) = true then
    let b := bytesS s 512
    if (b.1.2 == 0) = true then (if badB b.2 = true then ((s.1, 6), 0) else if 8 < b.2.length then ((s.1, 2), 0) else (b.1, leW b.2)) else (b.1, 0)
  else (s, 0)
theorem bytesS_put2 {l r : List UInt8} {most : Nat} (h : l.length ≤ most) (h2 : l.length < 2 ^ 64) : bytesS (putB l ++ r, 0) most = ((r, 0), l) := by
  have hn : (putU (BitVec.ofNat 64 l.length)).length ≠ 0 := by rw [putU_eq]; simp
  have hv : (BitVec.ofNat 64 l.length).toNat = l.length := by rw [BitVec.toNat_ofNat]; exact Nat.mod_eq_of_lt h2
  rw [bytesS, if_pos (show ((0 : Int) == 0) = true from rfl)]
  simp only [putB, List.append_assoc, numR_putU, hv]
  rw [if_neg hn, if_neg (by omega), if_neg (by simp only [List.length_append]; omega), List.drop_left, List.take_left, ← List.drop_drop, List.drop_left, List.drop_left]
theorem uintS_put2 {x most : W64} {r : List UInt8} (h : x.toNat ≤ most.toNat) : uintS (putU x ++ r, 0) most = ((r, 0), x) := by
  have hn : (putU x).length ≠ 0 := by rw [putU_eq]; simp
  rw [uintS, if_pos (show ((0 : Int) == 0) = true from rfl)]
  simp only [numR_putU]
  rw [if_neg hn, if_neg (by omega), List.drop_left]
theorem countS_put2 {x : W64} {most : Nat} {r : List UInt8} (h : x.toNat ≤ most) : countS (putU x ++ r, 0) most = ((r, 0), x.toNat) := by
  have hn : (putU x).length ≠ 0 := by rw [putU_eq]; simp
  rw [countS, if_pos (show ((0 : Int) == 0) = true from rfl)]
  simp only [numR_putU]
  rw [if_neg hn, if_neg (by omega), List.drop_left]
theorem setS_put (x : W64) (r : List UInt8) : setS (putB (setB x) ++ r, 0) = ((r, 0), x) := by
  have hl := setB_len x
  rw [setS, if_pos (show ((0 : Int) == 0) = true from rfl)]
  simp only [bytesS_put2 (l := setB x) (r := r) (most := 512) (by omega) (by omega)]
  rw [if_pos (show ((0 : Int) == 0) = true from rfl), badB_setB, if_neg (by simp), if_neg (by omega), leW_setB]
def rdSs (s : RSt) : RSt × RS :=
  let a := uintS s (BitVec.ofNat 64 64)
  let b := uintS a.1 (BitVec.ofNat 64 256)
  let c := setS b.1
  (c.1, ⟨(a.2.toNat : Int), (b.2.toNat : Int), c.2⟩)
def lastN (m : List RS) : Int := if 0 < m.length then (m.getD (m.length - 1) rz).n else 0
def badS (s : RSt) (m : List RS) : Bool := ((rdSs s).1.2 != 0) || (decide ((rdSs s).2.n ≤ lastN m) || (decide ((rdSs s).2.u < 1) || hasW (rdSs s).2.x 0))
def rsGo : Nat → RSt → List RS → Option (RSt × List RS)
  | 0, s, m => some (s, m)
  | n + 1, s, m => if badS s m = true then none else rsGo n (rdSs s).1 (m ++ [(rdSs s).2])
def readS (p : List UInt8) : Option (List RS) :=
  match rsGo (countS (p, 0) 64).2 (countS (p, 0) 64).1 [] with
  | none => none
  | some (s, m) => if endS s ≠ 0 ∨ bytesM m ≠ p then none else some m
theorem rdSs_rng (s : RSt) : (0 ≤ (rdSs s).2.n ∧ (rdSs s).2.n ≤ 64) ∧ (0 ≤ (rdSs s).2.u ∧ (rdSs s).2.u ≤ 256) := by
  have h1 := uintS_le s (BitVec.ofNat 64 64)
  have h2 := uintS_le (uintS s (BitVec.ofNat 64 64)).1 (BitVec.ofNat 64 256)
  have e1 : (BitVec.ofNat 64 64 : W64).toNat = 64 := by decide
  have e2 : (BitVec.ofNat 64 256 : W64).toNat = 256 := by decide
  rw [e1] at h1; rw [e2] at h2
  unfold rdSs
  simp only
  omega
theorem lastN_ge {m : List RS} (h : OkM m) : 0 ≤ lastN m := by
  unfold lastN
  split
  · rename_i hm
    have := (h.rng _ (gm (z := rz) (show m.length - 1 < m.length by omega))).1
    omega
  · omega
theorem lastN_lt {m : List RS} (h : OkM m) {s : RS} (hs : s ∈ m) : s.n ≤ lastN m := by
  obtain ⟨i, hi, rfl⟩ := List.mem_iff_getElem.1 hs
  have e : m[i] = m.getD i rz := by simp [List.getD, hi]
  rw [e, lastN, if_pos (by omega)]
  rcases Nat.lt_or_ge i (m.length - 1) with h1 | h1
  · have := asc_lt h.asc h1 (by omega); omega
  · have : i = m.length - 1 := by omega
    subst this; omega
theorem OkM.push {m : List RS} (h : OkM m) {e : RS} (hn : lastN m < e.n ∧ e.n ≤ 64) (hu : 1 ≤ e.u ∧ e.u ≤ 256) (hx : e.x.getLsbD 0 = false) : OkM (m ++ [e]) := by
  have hl := lastN_ge h
  refine ⟨List.pairwise_append.2 ⟨h.asc, by simp, fun a ha b hb => ?_⟩, ?_, ?_, ?_⟩
  · simp at hb; subst hb
    have := lastN_lt h ha; omega
  · intro s hs
    rcases List.mem_append.1 hs with hs | hs
    · exact h.rng s hs
    · simp at hs; subst hs; omega
  · intro s hs
    rcases List.mem_append.1 hs with hs | hs
    · exact h.usr s hs
    · simp at hs; subst hs; exact hu
  · intro s hs
    rcases List.mem_append.1 hs with hs | hs
    · exact h.rol s hs
    · simp at hs; subst hs; exact hx
theorem badS_no {s : RSt} {m : List RS} (h : badS s m = false) : (rdSs s).1.2 = 0 ∧ lastN m < (rdSs s).2.n ∧ 1 ≤ (rdSs s).2.u ∧ hasW (rdSs s).2.x 0 = false := by
  simp only [badS, Bool.or_eq_false_iff, bne_eq_false_iff_eq, decide_eq_false_iff_not] at h
  obtain ⟨h1, h2, h3, h4⟩ := h
  exact ⟨h1, by omega, by omega, h4⟩
theorem rsGo_ok : ∀ (n : Nat) (s : RSt) (m : List RS) (r : RSt × List RS), OkM m → rsGo n s m = some r → OkM r.2
  | 0, s, m, r, h, e => by simp [rsGo] at e; subst e; exact h
  | n + 1, s, m, r, h, e => by
    rw [rsGo] at e
    split at e
    · cases e
    · rename_i hb
      obtain ⟨h1, h2, h3, h4⟩ := badS_no (by simpa using hb)
      have hr := rdSs_rng s
      exact rsGo_ok n _ _ r (h.push ⟨h2, hr.1.2⟩ ⟨h3, hr.2.2⟩ (by simpa [hasW] using h4)) e
theorem readS_some {p : List UInt8} {m : List RS} (h : readS p = some m) : OkM m ∧ bytesM m = p := by
  unfold readS at h
  cases hr : rsGo (countS (p, 0) 64).2 (countS (p, 0) 64).1 [] with
  | none => rw [hr] at h; cases h
  | some r =>
    obtain ⟨s, q⟩ := r
    rw [hr] at h
    simp only at h
    split at h
    · cases h
    · rename_i hn
      simp only [Option.some.injEq] at h
      subst h
      exact ⟨rsGo_ok _ _ _ _ OkM.nil hr, Classical.byContradiction fun e => hn (.inr e)⟩
theorem rdSs_put {e : RS} (hn : 0 ≤ e.n ∧ e.n ≤ 64) (hu : 0 ≤ e.u ∧ e.u ≤ 256) (r : List UInt8) : rdSs (sesB e ++ r, 0) = ((r, 0), e) := by
  have e1 : (BitVec.ofNat 64 64 : W64).toNat = 64 := by decide
  have e2 : (BitVec.ofNat 64 256 : W64).toNat = 256 := by decide
  have i1 : (iW e.n).toNat = e.n.toNat := by rw [iW, BitVec.toNat_ofNat]; exact Nat.mod_eq_of_lt (by omega)
  have i2 : (iW e.u).toNat = e.u.toNat := by rw [iW, BitVec.toNat_ofNat]; exact Nat.mod_eq_of_lt (by omega)
  rw [sesB]
  simp only [List.append_assoc]
  unfold rdSs
  rw [uintS_put2 (by rw [i1, e1]; omega)]
  simp only
  rw [uintS_put2 (by rw [i2, e2]; omega)]
  simp only
  rw [setS_put, i1, i2]
  obtain ⟨n, u, x⟩ := e
  simp only at hn hu ⊢
  rw [Int.toNat_of_nonneg hn.1, Int.toNat_of_nonneg hu.1]
theorem lastN_app {m : List RS} {e : RS} {r : List RS} (h : OkM (m ++ e :: r)) : lastN m < e.n := by
  have hp := List.pairwise_append.1 h.asc
  unfold lastN
  split
  · rename_i hm
    exact hp.2.2 _ (gm (z := rz) (show m.length - 1 < m.length by omega)) e (by simp)
  · have := (h.rng e (by simp)).1; omega
theorem rsGo_put : ∀ (r m : List RS), OkM (m ++ r) → rsGo r.length (r.flatMap sesB, 0) m = some (([], 0), m ++ r)
  | [], m, _ => by simp [rsGo]
  | e :: r, m, h => by
    have hr := h.rng e (by simp); have hu := h.usr e (by simp); have hx := h.rol e (by simp)
    have hl := lastN_app h
    have e1 := rdSs_put (e := e) ⟨by omega, hr.2⟩ ⟨by omega, hu.2⟩ (r.flatMap sesB)
    rw [List.flatMap_cons, List.length_cons, rsGo, e1, if_neg, rsGo_put r (m ++ [e]) (by rw [List.append_assoc]; exact h), List.append_assoc]
    · rfl
    · rw [badS, e1]
      simp only [hasW, Bool.or_eq_true, bne_iff_ne, decide_eq_true_eq]
      simp
      refine ⟨by omega, by omega, ?_⟩
      simpa using hx
theorem readS_put {m : List RS} (h : OkM m) : readS (bytesM m) = some m := by
  have hl := h.len
  have hn : (BitVec.ofNat 64 m.length : W64).toNat = m.length := by rw [BitVec.toNat_ofNat]; exact Nat.mod_eq_of_lt (by omega)
  have e1 : countS (bytesM m, 0) 64 = ((m.flatMap sesB, 0), m.length) := by rw [bytesM, countS_put2 (by rw [hn]; exact hl), hn]
  unfold readS
  rw [e1]
  simp only
  rw [rsGo_put m [] (by simpa using h)]
  simp [endS]
theorem readS_none {p : List UInt8} {m : List RS} (h : OkM m) (hr : readS p = none) : p ≠ bytesM m := fun e => by
  rw [e, readS_put h] at hr; cases hr
theorem zeroB_eq (c : UInt8) : ((c.toNat : Int) == 0) = (c == 0) := by
  rw [Bool.eq_iff_iff, beq_iff_eq, beq_iff_eq, ← UInt8.toNat_inj]
  have : (0 : UInt8).toNat = 0 := rfl
  omega
abbrev wsC (a : Option Addr) (n c : Nat) : List Value := [.slice a n c]
def gM (ws : List W64) : Int := if ws = [] then 0 else ((64 * (ws.length - 1) : Nat) : Int) + (Lib.bitLen (ws.getD (ws.length - 1) 0).toNat : Int) - 1
theorem rdW_len (l : List UInt8) : (rdW l).length = (l.length + 7) / 8 := by simp [rdW]
theorem rdW_last {l : List UInt8} (h : badB l = false) (hl : l ≠ []) : (rdW l).getD ((rdW l).length - 1) 0 ≠ 0 := by
  have h0 : 0 < l.length := Nat.pos_of_ne_zero (fun e => hl (List.eq_nil_of_length_eq_zero e))
  rw [badB, decide_eq_true h0, Bool.true_and] at h
  have hne : l.getD (l.length - 1) 0 ≠ 0 := by simpa using h
  rw [rdW_len]
  have hj : (l.length + 7) / 8 - 1 < (l.length + 7) / 8 := by omega
  rw [rdW, List.getD, List.getElem?_map, List.getElem?_range hj]
  simp only [Option.map_some, Option.getD_some]
  intro e
  have hcl : ((l.drop (8 * ((l.length + 7) / 8 - 1))).take 8).length ≤ 8 := by simp; omega
  have hn := leW_nat hcl
  rw [e] at hn
  have hd : (l.drop (8 * ((l.length + 7) / 8 - 1))).take 8 = l.drop (8 * ((l.length + 7) / 8 - 1)) := List.take_of_length_le (by rw [List.length_drop]; omega)
  rw [hd] at hn
  have hdl : (l.drop (8 * ((l.length + 7) / 8 - 1))).length = l.length - 8 * ((l.length + 7) / 8 - 1) := List.length_drop
  refine leN_last (l.drop (8 * ((l.length + 7) / 8 - 1))) (fun q => by rw [q] at hdl; simp at hdl; omega) ?_ hn.symm
  rw [hdl, List.getD, List.getElem?_drop, show 8 * ((l.length + 7) / 8 - 1) + (l.length - 8 * ((l.length + 7) / 8 - 1) - 1) = l.length - 1 by omega]
  exact hne
theorem bitLen_pos {x : W64} (h : x ≠ 0) : 1 ≤ Lib.bitLen x.toNat := (topW_spec h).1
theorem gM_big {l : List UInt8} (h : badB l = false) (h8 : 8 < l.length) : 63 < gM (rdW l) := by
  have hl : l ≠ [] := fun e => by rw [e] at h8; simp at h8
  have h1 := rdW_last h hl
  have h2 := bitLen_pos h1
  have h3 := rdW_len l
  rw [gM, if_neg (fun e => by rw [e] at h3; simp at h3; omega)]
  omega
theorem rdW_small {l : List UInt8} (h : badB l = false) (h8 : l.length ≤ 8) : rdW l = wl (leW l) := by
  rcases Nat.eq_zero_or_pos l.length with h0 | h0
  · have : l = [] := List.eq_nil_of_length_eq_zero h0
    subst this; rfl
  · have h3 := rdW_len l
    have e1 : rdW l = [leW l] := by
      rw [rdW, show (l.length + 7) / 8 = 1 by omega]
      simp only [List.range_one, List.map_cons, List.map_nil, Nat.mul_zero, List.drop_zero]
      rw [List.take_of_length_le h8]
    have hne : leW l ≠ 0 := by
      have := rdW_last h (fun e => by rw [e] at h0; simp at h0)
      rw [e1] at this; simpa using this
    rw [e1, wl_some hne]
theorem gM_small {l : List UInt8} (h8 : l.length ≤ 8) : gM (rdW l) ≤ 63 := by
  have h3 := rdW_len l
  unfold gM
  split
  · omega
  · have := Lib.bitLen_le ((rdW l).getD ((rdW l).length - 1) 0).toNat 64 (by decide) ((rdW l).getD ((rdW l).length - 1) 0).isLt
    omega
end Go.Lx
/- The bytes of a set as the reference makes them from its members: plain law. Nothing of a program stands here. -/
namespace Go.Lx
open Go
set_option linter.unusedSimpArgs false
set_option linter.unusedVariables false
def mxI (t x : Int) : Int := if t < x then x else t
def topI (l : List Int) : Int := l.foldl mxI (-1)
theorem topI_take {l : List Int} {k : Nat} (h : k < l.length) : topI (l.take (k + 1)) = mxI (topI (l.take k)) (l.getD k 0) := by
  have e : l[k] = l.getD k 0 := by simp [List.getD, h]
  rw [List.take_succ_eq_append_getElem h, e, topI, List.foldl_append]; rfl
theorem mxI_ge : ∀ (l : List Int) (a : Int), a ≤ l.foldl mxI a ∧ ∀ y ∈ l, y ≤ l.foldl mxI a
  | [], a => by simp
  | x :: l, a => by
    obtain ⟨h1, h2⟩ := mxI_ge l (mxI a x)
    have h3 : a ≤ mxI a x ∧ x ≤ mxI a x := by unfold mxI; split <;> omega
    rw [List.foldl_cons]
    refine ⟨by omega, fun y hy => ?_⟩
    rcases List.mem_cons.1 hy with rfl | hy
    · omega
    · exact h2 y hy
theorem mxI_mem : ∀ (l : List Int) (a : Int), l.foldl mxI a = a ∨ l.foldl mxI a ∈ l
  | [], a => .inl rfl
  | x :: l, a => by
    rw [List.foldl_cons]
    rcases mxI_mem l (mxI a x) with h | h
    · rw [h]
      unfold mxI
      split
      · exact .inr (by simp)
      · exact .inl rfl
    · exact .inr (by simp [h])
theorem memW_iff {x : W64} {i : Int} : i ∈ memW x 64 ↔ ∃ k : Nat, k < 64 ∧ x.getLsbD k = true ∧ i = (k : Int) := by
  unfold memW
  simp only [List.mem_map, List.mem_filter, List.mem_range]
  constructor
  · rintro ⟨k, ⟨h1, h2⟩, rfl⟩; exact ⟨k, h1, h2, rfl⟩
  · rintro ⟨k, h1, h2, rfl⟩; exact ⟨k, ⟨h1, h2⟩, rfl⟩
theorem top_bit {x : W64} (h : x ≠ 0) : x.getLsbD (topW x) = true := by
  have h1 := top_low h
  have h2 := (topW_spec h).2.2
  have e : x.toNat / 2 ^ topW x = 1 := by
    refine Nat.div_eq_of_lt_le (by omega) (by rw [Nat.pow_succ] at h2; omega)
  rw [← BitVec.testBit_toNat, Nat.testBit_eq_decide_div_mod_eq, e]; rfl
theorem le_top {x : W64} (h : x ≠ 0) {k : Nat} (hk : x.getLsbD k = true) : k ≤ topW x := by
  refine Classical.byContradiction fun hn => ?_
  have h2 := (topW_spec h).2.2
  rw [← BitVec.testBit_toNat, Nat.testBit_lt_two_pow (Nat.lt_of_lt_of_le h2 (Nat.pow_le_pow_right (by decide) (by omega)))] at hk
  cases hk
theorem topI_zero : topI (memW 0 64) = -1 := by
  have e : memW (0 : W64) 64 = [] := List.eq_nil_iff_forall_not_mem.2 fun i hi => by
    obtain ⟨k, _, h, _⟩ := memW_iff.1 hi
    simp at h
  rw [e]; rfl
theorem topI_mem {x : W64} (h : x ≠ 0) : topI (memW x 64) = (topW x : Int) := by
  have h1 : (topW x : Int) ∈ memW x 64 := memW_iff.2 ⟨topW x, (topW_spec h).2.1, top_bit h, rfl⟩
  have h2 := (mxI_ge (memW x 64) (-1)).2 _ h1
  rcases mxI_mem (memW x 64) (-1) with h3 | h3
  · rw [h3] at h2; omega
  · obtain ⟨k, hk, hb, e⟩ := memW_iff.1 h3
    have h4 := le_top h hb
    have e2 : topI (memW x 64) = (k : Int) := e
    have e3 : (topW x : Int) ≤ topI (memW x 64) := h2
    omega
theorem mem_top {x : W64} {p : Int} (h : p ∈ memW x 64) : 0 ≤ p ∧ p ≤ topW x ∧ p < 64 := by
  obtain ⟨k, hk, hb, rfl⟩ := memW_iff.1 h
  have h0 : x ≠ 0 := fun e => by rw [e] at hb; simp at hb
  have := le_top h0 hb
  omega
def oneB (k : Nat) : UInt8 := UInt8.ofNat (2 ^ k)
theorem oneB_nat {k : Nat} (h : k < 8) : (oneB k).toNat = 2 ^ k := by
  have h2 : 2 ^ k ≤ 2 ^ 7 := Nat.pow_le_pow_right (by decide) (by omega)
  rw [oneB, UInt8.toNat_ofNat']; exact Nat.mod_eq_of_lt (by omega)
def byS (bs : List UInt8) (i : Int) : List UInt8 := bs.set (i.toNat / 8) (bs.getD (i.toNat / 8) 0 ||| oneB (i.toNat % 8))
def byL (n : Nat) (l : List Int) : List UInt8 := l.foldl byS (List.replicate n 0)
theorem byL_take {n : Nat} {l : List Int} {k : Nat} (h : k < l.length) : byL n (l.take (k + 1)) = byS (byL n (l.take k)) (l.getD k 0) := by
  have e : l[k] = l.getD k 0 := by simp [List.getD, h]
  rw [List.take_succ_eq_append_getElem h, e, byL, List.foldl_append]; rfl
theorem byF_len : ∀ (l : List Int) (bs : List UInt8), (l.foldl byS bs).length = bs.length
  | [], bs => rfl
  | x :: l, bs => by rw [List.foldl_cons, byF_len l]; simp [byS]
theorem byL_len (n : Nat) (l : List Int) : (byL n l).length = n := by rw [byL, byF_len]; simp
theorem byF_bit {n j b : Nat} (hj : j < n) (hb : b < 8) : ∀ (l : List Int) (bs : List UInt8), bs.length = n → (∀ i ∈ l, 0 ≤ i ∧ i < 8 * n) → ((l.foldl byS bs).getD j 0).toNat.testBit b = ((bs.getD j 0).toNat.testBit b || decide (((8 * j + b : Nat) : Int) ∈ l))
  | [], bs, _, _ => by simp
  | x :: l, bs, hl, h => by
    rw [List.foldl_cons, byF_bit hj hb l (byS bs x) (by simp [byS, hl]) (fun i hi => h i (by simp [hi]))]
    have hx := h x (by simp)
    have e : ((byS bs x).getD j 0).toNat.testBit b = ((bs.getD j 0).toNat.testBit b || decide (((8 * j + b : Nat) : Int) = x)) := by
      unfold byS
      by_cases hq : x.toNat / 8 = j
      · subst hq
        rw [List.getD, List.getElem?_set, if_pos rfl, if_pos (by omega)]
        simp only [Option.getD_some]
        rw [UInt8.toNat_or, Nat.testBit_or, oneB_nat (Nat.mod_lt _ (by decide)), Nat.testBit_two_pow]
        congr 1
        rw [Bool.eq_iff_iff, decide_eq_true_iff, decide_eq_true_iff]; omega
      · rw [List.getD, List.getElem?_set, if_neg hq]
        have : decide (((8 * j + b : Nat) : Int) = x) = false := decide_eq_false (by omega)
        rw [this, Bool.or_false]; rfl
    rw [e, Bool.or_assoc]
    congr 1
    rw [Bool.eq_iff_iff]
    simp only [Bool.or_eq_true, decide_eq_true_iff, List.mem_cons]
theorem byL_set {x : W64} (h : x ≠ 0) : byL (topW x / 8 + 1) (memW x 64) = setB x := by
  have hl := byL_len (topW x / 8 + 1) (memW x 64)
  rw [setB, if_neg h]
  refine List.ext_getElem (by rw [hl]; simp) fun j h1 h2 => ?_
  rw [hl] at h1
  have e : (byL (topW x / 8 + 1) (memW x 64))[j] = (byL (topW x / 8 + 1) (memW x 64)).getD j 0 := by simp [List.getD, hl, h1]
  rw [e, List.getElem_map, List.getElem_range]
  apply UInt8.toNat_inj.1
  refine Nat.eq_of_testBit_eq fun b => ?_
  have ht := (topW_spec h).2.1
  rcases Nat.lt_or_ge b 8 with hb | hb
  · rw [byL, byF_bit h1 hb _ _ (by simp) (fun i hi => by have := mem_top hi; omega)]
    have e0 : (List.replicate (topW x / 8 + 1) (0 : UInt8)).getD j 0 = 0 := by simp [List.getD, List.getElem?_replicate, h1]
    rw [e0, byteW_nat, show (256 : Nat) = 2 ^ 8 from rfl, Nat.testBit_mod_two_pow, Nat.testBit_div_two_pow]
    have h0 : (0 : UInt8).toNat = 0 := rfl
    rw [h0, Nat.zero_testBit, Bool.false_or, decide_eq_true hb, Bool.true_and, BitVec.testBit_toNat, Nat.add_comm b]
    rw [Bool.eq_iff_iff, decide_eq_true_iff, memW_iff]
    constructor
    · rintro ⟨k, hk, hx, e⟩
      have : k = 8 * j + b := by omega
      subst this; exact hx
    · intro hx
      exact ⟨8 * j + b, by omega, hx, rfl⟩
  · rw [Nat.testBit_lt_two_pow (Nat.lt_of_lt_of_le (UInt8.toNat_lt _) (Nat.pow_le_pow_right (by decide) hb : 2 ^ 8 ≤ 2 ^ b)), Nat.testBit_lt_two_pow (Nat.lt_of_lt_of_le (UInt8.toNat_lt _) (Nat.pow_le_pow_right (by decide) hb : 2 ^ 8 ≤ 2 ^ b))]
theorem o_shl1B {P : Program} {fr : Fr} {w : World} {d : Option Nat} {t : TypeId} {ps : String} {af : Array Edge} {g : Option (Nat × Bool)} {x y : Operand} {T U : TypeId} {k : IntKind} {n : Nat} (hx : ev fr x = .int .u8 1) (hy : ev fr y = .int k (n : Int)) (hn : n < 8) : xop P fr w ⟨d, .binOp .shl T x y U, t, ps, af, g⟩ = .ok (.value (.int .u8 ((oneB n).toNat : Int))) w := by
  have e : IntKind.u8.wrap ((1 : Int) * 2 ^ n) = ((oneB n).toNat : Int) := by
    have h : ((1 : Int) * 2 ^ n) = ((2 ^ n : Nat) : Int) := by simp
    rw [h, wrapU8]; rfl
  have h0 : ¬ ((n : Int) < 0) := by omega
  have h1 : min ((n : Int).toNat) 8 = n := by rw [Int.toNat_natCast]; omega
  have h1' : min ((n : Int).toNat) IntKind.u8.bits = n := h1
  simp only [xop, execOp, hx, hy, eqGuard, binOp, Op.shift, if_neg h0]
  simp only [h1', e]; simp
theorem wrapN64 {n : Nat} (h : n < 18446744073709551616) : IntKind.u64.wrap (n : Int) = (n : Int) := by
  rw [wrapU', BitVec.toNat_ofNat, Nat.mod_eq_of_lt h]
end Go.Lx
