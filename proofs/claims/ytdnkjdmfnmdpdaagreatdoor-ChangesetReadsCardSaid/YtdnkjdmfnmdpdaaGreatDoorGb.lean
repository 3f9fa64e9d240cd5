/- Several texts in one file. -/
import Derived.Test.YtdnkjdmfnmdpdaaGreatDoorHy
import Derived.Test.YtdnkjdmfnmdpdaaGreatDoorGm
import Derived.Test.YtdnkjdmfnmdpdaaGreatDoorTi
import Derived.Test.YtdnkjdmfnmdpdaaGreatDoorCs
set_option linter.unusedSimpArgs false
set_option linter.unusedVariables false
set_option linter.unnecessarySimpa false
/- The bytes of grants; the order of grants does not matter: plain law. Nothing of a program stands here. -/
namespace Go.Lx
open Go
theorem putB_lenG (l : List UInt8) : (putB l).length ≤ 11 + l.length := by
 rw [putB, List.length_append]
 have := putU_len (BitVec.ofNat 64 l.length); omega
end Go.Lx
/- Reading grants back: plain law. Nothing of a program stands here. -/
namespace Go.Lx
open Go
theorem bytesS_len (s : RSt) (most : Nat) : (bytesS s most).2.length ≤ most := by
 unfold bytesS
 split
 ·split
  ·simp
  split
  ·simp
  split
  ·simp
  ·simp only [List.length_take]; omega
 ·simp
theorem splitS_sum : ∀ (l : Str), l.length + 1 = ((splitS l).map fun x => x.length + 1).sum
 | [] => by simp [splitS]
 | c :: r => by
  have ih := splitS_sum r
  rw [splitS]
  split
  ·simp only [List.map_cons, List.sum_cons, List.length_cons, List.length_nil]; omega
  ·cases hr : splitS r with
   | nil => rw [hr] at ih; simp at ih
   | cons x q =>
    rw [hr] at ih
    simp only [List.map_cons, List.sum_cons, List.length_cons] at ih ⊢
    omega
theorem sum_le {l : List Str} {k : Nat} (h : ∀ x ∈ l, x.length ≤ k) : (l.map fun x => x.length + 1).sum ≤ l.length * (k + 1) := by
 induction l with
 | nil => simp
 | cons x l ih =>
  have h1 := h x (by simp); have h2 := ih (fun y hy => h y (by simp [hy]))
  simp only [List.map_cons, List.sum_cons, List.length_cons]
  rw [Nat.add_mul]; omega
theorem nmS_len {l : Str} (h : nmS l = true) : l.length ≤ 12 := by
 simp only [nmS, Bool.and_eq_true, Bool.not_eq_true', Bool.or_eq_false_iff, decide_eq_false_iff_not] at h
 omega
theorem namedS_len {l : Str} (h : namedS l = true) : l.length ≤ 12 := by
 simp only [namedS, Bool.and_eq_true, Bool.not_eq_true', Bool.or_eq_false_iff, decide_eq_false_iff_not] at h
 omega
theorem splitOk_len {p : Str} (h : splitOk p = true) : p.length ≤ 104 := by
 unfold splitOk splitP at h
 split at h
 ·rename_i e
  have : p = [47] := by simpa using e
  rw [this]; simp
 split at h
 ·simp at h
 split at h
 ·simp at h
 split at h
 ·rename_i h1 h2 h3
  have h4 := splitS_sum (p.drop 1)
  have h5 := sum_le (l := splitS (p.drop 1)) (k := 12) (fun x hx => namedS_len (List.all_eq_true.1 h3 x hx))
  have h6 : (splitS (p.drop 1)).length ≤ 8 := by omega
  have h7 : (splitS (p.drop 1)).length * (12 + 1) ≤ 8 * 13 := Nat.mul_le_mul_right _ h6
  have h8 : (p.drop 1).length = p.length - 1 := List.length_drop ..
  omega
 ·simp at h
theorem vp_sh {x : Perm} (h : Vp x) : x.act.length ≤ 12 ∧ x.path.length ≤ 104 := by
 refine ⟨nmS_len ?_, splitOk_len h.path⟩
 have := h.2
 unfold checkS at this
 cases hn : nmS x.act <;> simp [hn] at this ⊢
theorem uintS_dec (s : RSt) (most : W64) : (uintS s most).1.1.length ≤ s.1.length := by
 unfold uintS
 (repeat' split) <;> simp
theorem bytesS_dec (s : RSt) (most : Nat) : (bytesS s most).1.1.length ≤ s.1.length := by
 unfold bytesS
 (repeat' split) <;> simp
theorem flagS_dec (s : RSt) : (flagS s).1.1.length ≤ s.1.length := by
 unfold flagS
 (repeat' split) <;> simp
theorem countS_dec (s : RSt) (most : Nat) : (countS s most).1.1.length ≤ s.1.length := by
 unfold countS
 (repeat' split) <;> simp
theorem countS_le (s : RSt) (most : Nat) : (countS s most).2 ≤ most := by
 unfold countS
 split
 ·split
  ·simp
  split
  ·simp
  ·simp only; omega
 ·simp
section
variable {p : List UInt8} {N k : Nat} {s : RSt} {m : List Ent}
end
end Go.Lx
/- A number that is read from the front is written so and no other way: plain law. Nothing of a program stands here. -/
namespace Go.Lx
open Go
theorem grp_b7 {v : W64} {b : UInt8} (h : v.toNat < 2 ^ 57) : (b7 (grp v b)).toNat = b.toNat % 128 ∧ (grp v b) >>> 7 = v := by
 have hg := grp_nat (v := v) (b := b) h
 constructor
 ·rw [b7_nat, hg]; omega
 ·apply BitVec.eq_of_toNat_eq
  rw [BitVec.toNat_ushiftRight, Nat.shiftRight_eq_div_pow, hg]; omega
theorem gT_grp {v : W64} {b : UInt8} (h : v.toNat < 2 ^ 57) (hb : 128 ≤ b.toNat) (hn : grp v b ≠ 0) : (gT (grp v b)).reverse = (gT v).reverse ++ [b] := by
 obtain ⟨h1, h2⟩ := grp_b7 (v := v) (b := b) h
 rw [gT_some hn, List.reverse_cons, h2]
 have e : b7 (grp v b) ||| 128 = b := by
  rw [← UInt8.toNat_inj, b8_nat _ (by omega), h1]
  have := b.toNat_lt; omega
 rw [e]
theorem numGo_put : ∀ (l : List UInt8) (k : Nat) (v x : W64) (n : Nat), (k = 0 → v = 0) → (k ≠ 0 → v ≠ 0) → numGo k v l = (x, n) → n ≠ 0 → k < n ∧ (gT v).reverse ++ l.take (n - k) = putU x
 | [], k, v, x, n, _, _, h, hn => by
  rw [numGo] at h
  exact absurd (congrArg Prod.snd h).symm hn
 | b :: r, k, v, x, n, h0, h1, h, hn => by
  rw [numGo] at h
  by_cases hb : ((k == 0 && b == 128) || decide (144115188075855871 < v.toNat)) = true
  ·rw [if_pos hb] at h; exact absurd (congrArg Prod.snd h).symm hn
  rw [if_neg hb] at h
  rw [Bool.not_eq_true, Bool.or_eq_false_iff] at hb
  have hv : v.toNat < 2 ^ 57 := by have := of_decide_eq_false hb.2; omega
  by_cases hs : b.toNat < 128
  ·rw [if_pos hs] at h
   obtain ⟨rfl, rfl⟩ := Prod.mk.inj h
   refine ⟨by omega, ?_⟩
   obtain ⟨h2, h3⟩ := grp_b7 (v := v) (b := b) hv
   rw [putU_eq, h3, show k + 1 - k = 1 by omega]
   have e : b7 (grp v b) = b := by rw [← UInt8.toNat_inj, h2]; omega
   rw [e]; rfl
  ·rw [if_neg hs] at h
   have hg : grp v b ≠ 0 := fun e => by
    have hz := grp_nat (v := v) (b := b) hv
    rw [e] at hz
    have hz' : v.toNat * 128 + b.toNat % 128 = 0 := hz.symm
    by_cases hk : k = 0
    ·have hb1 : (b == 128) = false := by have := hb.1; rw [hk] at this; simpa using this
     have hb2 : b.toNat ≠ 128 := fun e => by
      have : b = 128 := by rw [← UInt8.toNat_inj, e]; rfl
      rw [this] at hb1; cases hb1
     have := b.toNat_lt; omega
    ·exact h1 hk (BitVec.eq_of_toNat_eq (by show v.toNat = 0; omega))
   obtain ⟨h2, h3⟩ := numGo_put r (k + 1) (grp v b) x n (fun e => by omega) (fun _ => hg) h hn
   refine ⟨by omega, ?_⟩
   rw [gT_grp hv (by omega) hg] at h3
   rw [show n - k = (n - (k + 1)) + 1 by omega, List.take_succ_cons, ← h3, List.append_assoc]; rfl
theorem numR_back {l : List UInt8} (h : (numR l).2 ≠ 0) : l = putU (numR l).1 ++ l.drop (numR l).2 := by
 have := (numGo_put l 0 0 (numR l).1 (numR l).2 (fun _ => rfl) (fun h => absurd rfl h) rfl h).2
 rw [show gT 0 = [] from gT_zero] at this
 simp only [List.reverse_nil, List.nil_append, Nat.sub_zero] at this
 rw [← this, List.take_append_drop]
theorem uintS_back {s : RSt} {most : W64} (h : (uintS s most).1.2 = 0) : s.2 = 0 ∧ s.1 = putU (uintS s most).2 ++ (uintS s most).1.1 := by
 unfold uintS at h ⊢
 by_cases hs : (s.2 == 0) = true
 ·rw [if_pos hs] at h ⊢
  by_cases hn : (numR s.1).2 = 0
  ·rw [if_pos hn] at h; simp at h
  rw [if_neg hn] at h ⊢
  by_cases hm : most.toNat < (numR s.1).1.toNat
  ·rw [if_pos hm] at h; simp at h
  rw [if_neg hm]
  exact ⟨eq_of_beq hs, numR_back hn⟩
 ·rw [if_neg hs] at h
  exact absurd (beq_iff_eq.2 h) hs
theorem countS_back {s : RSt} {most : Nat} (h : (countS s most).1.2 = 0) : s.2 = 0 ∧ s.1 = putU (BitVec.ofNat 64 (countS s most).2) ++ (countS s most).1.1 := by
 unfold countS at h ⊢
 by_cases hs : (s.2 == 0) = true
 ·rw [if_pos hs] at h ⊢
  by_cases hn : (numR s.1).2 = 0
  ·rw [if_pos hn] at h; simp at h
  rw [if_neg hn] at h ⊢
  by_cases hm : most < (numR s.1).1.toNat
  ·rw [if_pos hm] at h; simp at h
  rw [if_neg hm]
  refine ⟨eq_of_beq hs, ?_⟩
  have e : BitVec.ofNat 64 (numR s.1).1.toNat = (numR s.1).1 := BitVec.eq_of_toNat_eq (by rw [BitVec.toNat_ofNat]; exact Nat.mod_eq_of_lt (numR s.1).1.isLt)
  rw [e]
  exact numR_back hn
 ·rw [if_neg hs] at h
  exact absurd (beq_iff_eq.2 h) hs
theorem bytesS_back {s : RSt} {most : Nat} (h : (bytesS s most).1.2 = 0) : s.2 = 0 ∧ s.1 = putB (bytesS s most).2 ++ (bytesS s most).1.1 := by
 unfold bytesS at h ⊢
 by_cases hs : (s.2 == 0) = true
 ·rw [if_pos hs] at h ⊢
  by_cases hn : (numR s.1).2 = 0
  ·rw [if_pos hn] at h; simp at h
  rw [if_neg hn] at h ⊢
  by_cases hm : most < (numR s.1).1.toNat
  ·rw [if_pos hm] at h; simp at h
  rw [if_neg hm] at h ⊢
  by_cases hl : s.1.length - (numR s.1).2 < (numR s.1).1.toNat
  ·rw [if_pos hl] at h; simp at h
  rw [if_neg hl]
  refine ⟨eq_of_beq hs, ?_⟩
  have h1 := numR_back hn
  simp only
  have e : ((s.1.drop (numR s.1).2).take (numR s.1).1.toNat).length = (numR s.1).1.toNat := by rw [List.length_take, List.length_drop]; omega
  have e2 : BitVec.ofNat 64 (numR s.1).1.toNat = (numR s.1).1 := BitVec.eq_of_toNat_eq (by rw [BitVec.toNat_ofNat]; exact Nat.mod_eq_of_lt (numR s.1).1.isLt)
  rw [putB, e, e2, List.append_assoc]
  conv => lhs; rw [h1]
  congr 1
  rw [← List.drop_drop, List.take_append_drop]
 ·rw [if_neg hs] at h
  exact absurd (beq_iff_eq.2 h) hs
theorem flagS_back {s : RSt} (h : (flagS s).1.2 = 0) : s.2 = 0 ∧ s.1 = putF (flagS s).2 :: (flagS s).1.1 := by
 unfold flagS at h ⊢
 by_cases hs : (s.2 == 0) = true
 ·rw [if_pos hs] at h ⊢
  by_cases hn : s.1 = [] ∨ 1 < (s.1.getD 0 0).toNat
  ·rw [if_pos hn] at h; simp at h
  rw [if_neg hn]
  refine ⟨eq_of_beq hs, ?_⟩
  cases hl : s.1 with
  | nil => exact absurd (.inl hl) hn
  | cons c r =>
   rw [hl] at hn
   simp only [List.getD_cons_zero, List.drop_one, List.tail_cons]
   congr 1
   have hc : ¬ 1 < c.toNat := fun h => hn (.inr h)
   by_cases h1 : c = 1
   ·subst h1; rfl
   ·have h0 : c = 0 := by
     rw [← UInt8.toNat_inj]
     have h2 : c.toNat ≠ 1 := fun e => h1 (by rw [← UInt8.toNat_inj, e]; rfl)
     show c.toNat = 0; omega
    subst h0; rfl
 ·rw [if_neg hs] at h
  exact absurd (beq_iff_eq.2 h) hs
end Go.Lx
/- A reader of bytes in memory. Nothing of a program stands here. -/
namespace Go.Lx
open Go Go.RowKit
def PtB (v : Value) (g : Nat) : Prop := v = .pointer (some ⟨g, 0, none⟩)
theorem PtB.eq {b g : Nat} (h : PtB (.pointer (some ⟨b, 0, none⟩)) g) : g = b := by
 unfold PtB at h
 simp only [Value.pointer.injEq, Option.some.injEq, Addr.mk.injEq, and_true] at h
 exact h.symm
abbrev rdC (u : Value) (e : Int) : List Value := [u, .int .i64 e]
def Rdr (T : TypeId) (D : Nat → Prop) (w : World) (v : Value) (s : RSt) : Prop := ∃ b u, v = .pointer (some ⟨b, 0, none⟩) ∧ D b ∧ Box w b T [u, .int .i64 s.2] ∧ Rd encB 1 (fun g => D g ∧ g ≠ b) w u s.1
section
variable {T : TypeId} {D D' : Nat → Prop} {γ : Prop} {w w' : World} {v : Value} {s : RSt}
theorem Rdr.keepD (h : Rdr T D w v s) (x : Bel γ D' w w') (hd : ∀ g, g < w.heap.size → D g → ¬ D' g) : Rdr T D w' v s :=
 let ⟨b, u, h1, h2, h3, a, c, h4, h5⟩ := h
 ⟨b, u, h1, h2, h3.keep x (hd b h3.lt h2), a, c, h4, h5.keep x fun g hg hD => hd g hg hD.1⟩
theorem Rdr.ext (h : Rdr T D w v s) (x : Ext γ w w') : Rdr T D w' v s := h.keepD x fun _ _ _ => id
theorem Rdr.mono (h : Rdr T D w v s) (hd : ∀ g, g < w.heap.size → D g → D' g) : Rdr T D' w v s :=
 let ⟨b, u, h1, h2, h3, a, c, h4, h5⟩ := h
 ⟨b, u, h1, hd b h3.lt h2, h3, a, c, h4, h5.mono fun g hg hD => ⟨hd g hg hD.1, hD.2⟩⟩
theorem Rdr.weak (h : Rdr T D w v s) {w1 w2 : World} (x : Bel γ (PtB v) w1 w2) : Bel γ D w1 w2 := by
 obtain ⟨b, u, rfl, h2, _⟩ := h
 exact Bel.mono x fun g _ hg => by rw [PtB.eq hg]; exact h2
theorem Rdr.wk {P : Program} {f : Nat} {args : Array Value} {A : Value → World → Prop} {s' : RSt} (h : Rdr T D w v s) (h1 : Ok P f args w fun u w' => A u w' ∧ Rdr T D w' v s' ∧ Bel False (PtB v) w w') : Ok P f args w fun u w' => A u w' ∧ Rdr T D w' v s' ∧ Bel False D w w' :=
 h1.mono fun _ _ ⟨a, b, c⟩ => ⟨a, b, h.weak c⟩
theorem Rdr.ptr (h : Rdr T D w v s) : ∃ b, v = .pointer (some ⟨b, 0, none⟩) := let ⟨b, _, h1, _⟩ := h; ⟨b, h1⟩
theorem Rdr.open {b : Nat} (h : Rdr T D w (.pointer (some ⟨b, 0, none⟩)) s) : ∃ a c, Box w b T [.slice a s.1.length c, .int .i64 s.2] ∧ Sl encB 1 (fun g => D g ∧ g ≠ b) w a c s.1 := by
 obtain ⟨b', u, h1, h2, h3, a, c, rfl, h5⟩ := h
 simp only [Value.pointer.injEq, Option.some.injEq, Addr.mk.injEq, and_true] at h1
 subst h1
 exact ⟨a, c, h3, h5⟩
end
theorem refS_no {s : RSt} {b : Bool} {e : Int} (h : b = false) : refS s b e = s := by rw [refS, h]; rfl
theorem refS_yes {s : RSt} {b : Bool} {e : Int} (h : b = true) (hok : (s.2 == 0) = true) : refS s b e = (s.1, e) := by rw [refS, if_pos h, failS, if_pos hok]
section
variable {P : Program} {fr : Fr} {w : World} {d : Option Nat} {t : TypeId} {ps : String} {af : Array Edge} {g : Option (Nat × Bool)} {x y : Operand} {T U : TypeId}
end
end Go.Lx
/- The bytes of a set of ops, written and read: plain law. Nothing of a program stands here. -/
namespace Go.Lx
open Go
def permB (p : Perm) : List UInt8 := putB p.act ++ putB p.path ++ [putF p.deep]
def opB (o : COp) : List UInt8 := [putF o.add] ++ putU (iW o.k) ++ putU (iW o.a) ++ putU (iW o.b) ++ putU (iW o.u) ++ (if o.k = 2 then permB o.p else [])
def obytesK (X : List COp) (k : Nat) : List UInt8 := putU (BitVec.ofNat 64 X.length) ++ (X.take k).flatMap opB
def obytes (X : List COp) : List UInt8 := putU (BitVec.ofNat 64 X.length) ++ X.flatMap opB
theorem obytesK_zero (X : List COp) : obytesK X 0 = putU (BitVec.ofNat 64 X.length) := by simp [obytesK]
theorem obytesK_end {X : List COp} {k : Nat} (h : X.length ≤ k) : obytesK X k = obytes X := by rw [obytesK, List.take_of_length_le h, obytes]
theorem obytesK_succ {X : List COp} {k : Nat} (h : k < X.length) : obytesK X (k + 1) = obytesK X k ++ opB (X.getD k coz) := by
 have e : X[k] = X.getD k coz := by simp [List.getD, h]
 rw [obytesK, obytesK, List.take_succ_eq_append_getElem h, List.flatMap_append, e]
 simp [List.append_assoc]
theorem obytes_pos (X : List COp) : 0 < (obytes X).length := by
 unfold obytes; rw [putU_eq]; simp; omega
def rdN (s : RSt) (most : Nat) : RSt × Int := ((uintS s (BitVec.ofNat 64 most)).1, ((uintS s (BitVec.ofNat 64 most)).2.toNat : Int))
def rdP (n : Nat) (s : RSt) : RSt × Perm :=
 ((flagS (bytesS (bytesS s n).1 n).1).1, ⟨(bytesS s n).2, (bytesS (bytesS s n).1 n).2, (flagS (bytesS (bytesS s n).1 n).1).2⟩)
def rd5 (s : RSt) : RSt × COp :=
 let f := flagS s
 let k := rdN f.1 3
 let a := rdN k.1 256
 let b := rdN a.1 63
 let u := rdN b.1 30000
 (u.1, ⟨f.2, k.2, a.2, b.2, u.2, pz⟩)
def rdO (n : Nat) (s : RSt) : RSt × COp := if (rd5 s).2.k = 2 then ((rdP n (rd5 s).1).1, { (rd5 s).2 with p := (rdP n (rd5 s).1).2 }) else rd5 s
def rdOs (n : Nat) : Nat → RSt → List COp → RSt × List COp
 | 0, s, l => (s, l)
 | m + 1, s, l => if s.2 ≠ 0 then (s, l) else rdOs n m (rdO n s).1 (l ++ [(rdO n s).2])
def rdAll (p : List UInt8) : RSt × List COp := rdOs p.length (countS (p, 0) p.length).2 (countS (p, 0) p.length).1 []
def okR (p : List UInt8) : Prop := endS (rdAll p).1 = 0 ∧ (ofO (rdAll p).2).2 = 0 ∧ (ofO (rdAll p).2).1 = (rdAll p).2
theorem iW_toNat (x : W64) : iW (x.toNat : Int) = x := by rw [iW]; simp
theorem rdN_back {s : RSt} {most : Nat} (h : (rdN s most).1.2 = 0) : s.2 = 0 ∧ s.1 = putU (iW (rdN s most).2) ++ (rdN s most).1.1 := by
 unfold rdN at h ⊢
 simp only [iW_toNat] at h ⊢
 exact uintS_back h
theorem rdP_back {n : Nat} {s : RSt} (h : (rdP n s).1.2 = 0) : s.2 = 0 ∧ s.1 = permB (rdP n s).2 ++ (rdP n s).1.1 := by
 unfold rdP at h ⊢
 obtain ⟨h1, e1⟩ := flagS_back h
 obtain ⟨h2, e2⟩ := bytesS_back h1
 obtain ⟨h3, e3⟩ := bytesS_back h2
 refine ⟨h3, ?_⟩
 rw [e3, e2, e1]
 simp [permB, List.append_assoc]
theorem rd5_back {s : RSt} (h : (rd5 s).1.2 = 0) : s.2 = 0 ∧ s.1 = [putF (rd5 s).2.add] ++ putU (iW (rd5 s).2.k) ++ putU (iW (rd5 s).2.a) ++ putU (iW (rd5 s).2.b) ++ putU (iW (rd5 s).2.u) ++ (rd5 s).1.1 := by
 obtain ⟨h1, e1⟩ := rdN_back (s := (rdN (rdN (rdN (flagS s).1 3).1 256).1 63).1) (most := 30000) h
 obtain ⟨h2, e2⟩ := rdN_back h1
 obtain ⟨h3, e3⟩ := rdN_back h2
 obtain ⟨h4, e4⟩ := rdN_back h3
 obtain ⟨h5, e5⟩ := flagS_back h4
 refine ⟨h5, ?_⟩
 rw [e5, e4, e3, e2, e1]
 simp [rd5, List.append_assoc]
theorem rdO_back {n : Nat} {s : RSt} (h : (rdO n s).1.2 = 0) : s.2 = 0 ∧ s.1 = opB (rdO n s).2 ++ (rdO n s).1.1 := by
 unfold rdO at h ⊢
 by_cases hk : (rd5 s).2.k = 2
 ·rw [if_pos hk] at h ⊢
  obtain ⟨h1, e1⟩ := rdP_back h
  obtain ⟨h2, e2⟩ := rd5_back h1
  refine ⟨h2, ?_⟩
  rw [e2, e1, opB]
  simp only [if_pos hk, List.append_assoc]
 ·rw [if_neg hk] at h ⊢
  obtain ⟨h2, e2⟩ := rd5_back h
  refine ⟨h2, ?_⟩
  conv => lhs; rw [e2]
  rw [opB]
  simp only [if_neg hk, List.append_nil, List.append_assoc]
theorem rdOs_back {n : Nat} : ∀ {m : Nat} {s : RSt} {l : List COp}, (rdOs n m s l).1.2 = 0 → s.2 = 0 ∧ ∃ r, r.length = m ∧ (rdOs n m s l).2 = l ++ r ∧ s.1 = r.flatMap opB ++ (rdOs n m s l).1.1
 | 0, s, l, h => ⟨h, [], rfl, by simp [rdOs], by simp [rdOs]⟩
 | m + 1, s, l, h => by
  rw [rdOs] at h ⊢
  by_cases hs : s.2 ≠ 0
  ·rw [if_pos hs] at h; exact absurd h hs
  rw [if_neg hs] at h ⊢
  obtain ⟨h1, r, h2, h3, h4⟩ := rdOs_back h
  obtain ⟨_, h6⟩ := rdO_back h1
  refine ⟨Classical.not_not.1 hs, (rdO n s).2 :: r, by simp [h2], by rw [h3]; simp, ?_⟩
  rw [h6, h4]; simp [List.append_assoc]
theorem endS_z {s : RSt} (h : endS s = 0) : s.2 = 0 ∧ s.1 = [] := by
 unfold endS at h
 by_cases hc : (s.2 == 0) = true ∧ s.1 ≠ []
 ·rw [if_pos hc] at h; cases h
 ·rw [if_neg hc] at h
  exact ⟨h, Classical.byContradiction fun e => hc ⟨beq_iff_eq.2 h, e⟩⟩
theorem rdAll_back {p : List UInt8} (h : endS (rdAll p).1 = 0) : obytes (rdAll p).2 = p := by
 obtain ⟨h1, h2⟩ := endS_z h
 obtain ⟨h3, r, h4, h5, h6⟩ := rdOs_back h1
 obtain ⟨_, h8⟩ := countS_back h3
 have e0 : (rdAll p).2 = r := by rw [rdAll, h5]; rfl
 rw [e0, obytes, h4]
 have h9 : (rdOs p.length (countS (p, 0) p.length).2 (countS (p, 0) p.length).1 []).1.1 = [] := h2
 rw [h9, List.append_nil] at h6
 rw [← h6]; exact h8.symm
theorem Vo.pz {o : COp} (h : Vo o) (hk : o.k ≠ 2) : o.p = Go.Lx.pz := Classical.byContradiction fun hn => by
 have h1 := h.chk; have hr := h.rng
 unfold checkO at h1
 rw [if_neg (by omega), if_pos (.inl ⟨hk, hn⟩)] at h1; omega
theorem rdOs_stop {n m : Nat} {s : RSt} {l : List COp} (h : (decide ((0 : Int) < (m : Int)) && (s.2 == 0)) = false) : rdOs n m s l = (s, l) := by
 cases m with
 | zero => rfl
 | succ m =>
  rw [rdOs, if_pos]
  intro e
  rw [decide_eq_true (by omega), e] at h
  cases h
theorem rdOs_go {n m : Nat} {s : RSt} {l : List COp} (h : s.2 = 0) : rdOs n (m + 1) s l = rdOs n m (rdO n s).1 (l ++ [(rdO n s).2]) := by rw [rdOs, if_neg (by simpa using h)]
theorem rdN_dec (s : RSt) (most : Nat) : (rdN s most).1.1.length ≤ s.1.length := uintS_dec _ _
theorem rd5_dec (s : RSt) : (rd5 s).1.1.length ≤ s.1.length := by
 have h1 := flagS_dec s; have h2 := rdN_dec (flagS s).1 3; have h3 := rdN_dec (rdN (flagS s).1 3).1 256; have h4 := rdN_dec (rdN (rdN (flagS s).1 3).1 256).1 63; have h5 := rdN_dec (rdN (rdN (rdN (flagS s).1 3).1 256).1 63).1 30000
 show (rdN (rdN (rdN (rdN (flagS s).1 3).1 256).1 63).1 30000).1.1.length ≤ _
 omega
theorem rdP_dec (n : Nat) (s : RSt) : (rdP n s).1.1.length ≤ s.1.length := by
 have h1 := bytesS_dec s n; have h2 := bytesS_dec (bytesS s n).1 n; have h3 := flagS_dec (bytesS (bytesS s n).1 n).1
 show (flagS _).1.1.length ≤ _
 omega
theorem rdO_dec (n : Nat) (s : RSt) : (rdO n s).1.1.length ≤ s.1.length := by
 unfold rdO
 split
 ·have h1 := rd5_dec s; have h2 := rdP_dec n (rd5 s).1
  show (rdP n (rd5 s).1).1.1.length ≤ _
  omega
 ·exact rd5_dec s
theorem rdN_rng (s : RSt) (most : Nat) (hm : most < 2 ^ 64) : 0 ≤ (rdN s most).2 ∧ (rdN s most).2 ≤ most := by
 have h := uintS_le s (BitVec.ofNat 64 most)
 have h2 : (BitVec.ofNat 64 most : W64).toNat = most := by rw [BitVec.toNat_ofNat]; exact Nat.mod_eq_of_lt hm
 rw [h2] at h
 exact ⟨Int.natCast_nonneg _, by show ((uintS s (BitVec.ofNat 64 most)).2.toNat : Int) ≤ _; omega⟩
theorem rdO_pok (n : Nat) (s : RSt) (hn : n ≤ 1000000) : (rdO n s).2.p.ok := by
 unfold rdO
 split
 ·exact ⟨Nat.le_trans (bytesS_len _ _) hn, Nat.le_trans (bytesS_len _ _) hn⟩
 ·exact ⟨Nat.zero_le _, Nat.zero_le _⟩
end Go.Lx
/- Numbers as the reference writes them; arrays of four. Nothing of a program stands here. -/
namespace Go.Lx
open Go Go.RowKit
theorem shr_of {n : Nat} (h : n < 2 ^ 64) : (BitVec.ofNat 64 n) >>> 7 = BitVec.ofNat 64 (n / 128) := by
 apply BitVec.eq_of_toNat_eq
 rw [BitVec.toNat_ushiftRight, Nat.shiftRight_eq_div_pow, BitVec.toNat_ofNat, BitVec.toNat_ofNat, Nat.mod_eq_of_lt h, Nat.mod_eq_of_lt (by omega)]
theorem b7_of {n : Nat} (h : n < 2 ^ 64) : (b7 (BitVec.ofNat 64 n)).toNat = n % 128 := by
 rw [b7_nat, BitVec.toNat_ofNat, Nat.mod_eq_of_lt h]
theorem wrap_b7 {n : Nat} (h : n < 2 ^ 64) : IntKind.u8.wrap ((n % 128 : Nat) : Int) = ((b7 (BitVec.ofNat 64 n)).toNat : Int) := by
 rw [b7_of h]; exact wrap_k8 (by omega) (by omega)
theorem wrap_b8 {n : Nat} (h : n < 2 ^ 64) : IntKind.u8.wrap ((128 + n % 128 : Nat) : Int) = ((b7 (BitVec.ofNat 64 n) ||| 128).toNat : Int) := by
 rw [b8_nat _ (by rw [b7_of h]; omega), b7_of h, Nat.add_comm]; exact wrap_k8 (by omega) (by omega)
theorem wrap_kk {i : Int} (h : 0 ≤ i ∧ i < 128) : IntKind.u8.wrap i = ((UInt8.ofNat i.toNat).toNat : Int) := by
 rw [wrap_k8 h.1 (by omega)]; simp; omega
theorem Bel.exK {β : Prop} {D : Nat → Prop} {w w' : World} (x : Bel β D w w') (h : ∀ b, b < w.heap.size → D b → w'.heap[b]? = w.heap[b]?) : Ext β w w' :=
 ⟨x.os, x.tape, x.output, x.size, fun b hb _ => (Classical.em (D b)).elim (h b hb) (x.block b hb), x.drawn⟩
theorem gT_on {m : Nat} {l : List UInt8} {x : List UInt8} (h0 : 0 < m) (h : m < 2 ^ 64) (hI : (gT (BitVec.ofNat 64 m)).reverse ++ l = x) : (gT (BitVec.ofNat 64 (m / 128))).reverse ++ ([b7 (BitVec.ofNat 64 m) ||| 128] ++ l) = x := by
 have hn : BitVec.ofNat 64 m ≠ 0 := fun e => by
  have := congrArg BitVec.toNat e
  rw [BitVec.toNat_ofNat, Nat.mod_eq_of_lt h] at this
  have h2 : (0 : W64).toNat = 0 := rfl
  omega
 rw [gT_some hn, List.reverse_cons, shr_of h, List.append_assoc] at hI
 exact hI
theorem putU_of {n : Nat} (h : n < 2 ^ 64) : (gT (BitVec.ofNat 64 (n / 128))).reverse ++ [b7 (BitVec.ofNat 64 n)] = putU (BitVec.ofNat 64 n) := by rw [putU_eq, shr_of h]
theorem gT_z : gT (BitVec.ofNat 64 0) = [] := gT_zero
section
variable {P : Program} {fr : Fr} {w : World} {d : Option Nat} {t : TypeId} {ps : String} {af : Array Edge} {g : Option (Nat × Bool)} {x y : Operand} {T e : TypeId} {a b c f : Int} {k : Nat}
theorem o_idx4 (hT : P.underlying T = some (.array 4 e)) (ha : ∀ w, (isAgg e).run P w = .ok false w) (hs : ∀ w, (sizeOf e).run P w = .ok 1 w) (hx : ev fr x = .agg #[.int .i64 a, .int .i64 b, .int .i64 c, .int .i64 f]) (hy : ev fr y = .int .i64 (k : Int)) (hk : k < 4) : xop P fr w ⟨d, .index T x y, t, ps, af, g⟩ = .ok (.value (.int .i64 (([a, b, c, f] : List Int).getD k 0))) w := by
 match k, hk with
 | 0, _ => simp [xop, execOp, hx, hy, Instr.index, run_underlying hT, asIntOf, part, ha, hs]
 | 1, _ => simp [xop, execOp, hx, hy, Instr.index, run_underlying hT, asIntOf, part, ha, hs]
 | 2, _ => simp [xop, execOp, hx, hy, Instr.index, run_underlying hT, asIntOf, part, ha, hs]
 | 3, _ => simp [xop, execOp, hx, hy, Instr.index, run_underlying hT, asIntOf, part, ha, hs]
theorem o_xorB {a' b' : UInt8} {U : TypeId} (hx : ev fr x = .int .u8 (a'.toNat : Int)) (hy : ev fr y = .int .u8 (b'.toNat : Int)) : xop P fr w ⟨d, .binOp .xor T x y U, t, ps, af, g⟩ = .ok (.value (.int .u8 ((a' ^^^ b').toNat : Int))) w := by
 have e1 : (BitVec.ofInt 8 (a'.toNat : Int)) = a'.toBitVec := by
  rw [BitVec.ofInt_natCast]; apply BitVec.eq_of_toNat_eq; rw [BitVec.toNat_ofNat]; exact Nat.mod_eq_of_lt a'.toNat_lt
 have e2 : (BitVec.ofInt 8 (b'.toNat : Int)) = b'.toBitVec := by
  rw [BitVec.ofInt_natCast]; apply BitVec.eq_of_toNat_eq; rw [BitVec.toNat_ofNat]; exact Nat.mod_eq_of_lt b'.toNat_lt
 have e : IntKind.u8.wrap ((BitVec.ofInt IntKind.u8.bits (a'.toNat : Int) ^^^ BitVec.ofInt IntKind.u8.bits (b'.toNat : Int)).toNat : Int) = ((a' ^^^ b').toNat : Int) := by
  show IntKind.u8.wrap ((BitVec.ofInt 8 (a'.toNat : Int) ^^^ BitVec.ofInt 8 (b'.toNat : Int)).toNat : Int) = _
  rw [e1, e2, ← UInt8.toBitVec_xor]
  show IntKind.u8.wrap (((a' ^^^ b').toNat : Nat) : Int) = _
  rw [wrapU8, UInt8.ofNat_toNat]
 simp only [xop, execOp, hx, hy, eqGuard, binOp, Op.intBits]
 simp only [e]; simp
end
def numsB (l : List Int) : List UInt8 := l.flatMap fun i => putU (iW i)
theorem numsB_succ {l : List Int} {k : Nat} (h : k < l.length) : numsB (l.take (k + 1)) = numsB (l.take k) ++ putU (iW (l.getD k 0)) := by
 have e : l.getD k 0 = l[k] := by simp [List.getD, h]
 unfold numsB
 rw [List.take_succ_eq_append_getElem h, List.flatMap_append, e]; simp
theorem numsB_len (l : List Int) : (numsB l).length ≤ 11 * l.length := by
 induction l with
 | nil => simp [numsB]
 | cons i l ih =>
  have h := putU_len (iW i)
  unfold numsB at ih ⊢
  rw [List.flatMap_cons, List.length_append, List.length_cons]; omega
theorem opB_nums (o : COp) : opB o = [putF o.add] ++ numsB [o.k, o.a, o.b, o.u] ++ (if o.k = 2 then permB o.p else []) := by
 simp [opB, numsB, List.append_assoc]
theorem putU_small {i : Int} (h : 0 ≤ i ∧ i < 128) : putU (iW i) = [UInt8.ofNat i.toNat] := by
 have h1 : (iW i) >>> 7 = 0 := by
  rw [iW, shr_of (by omega), show i.toNat / 128 = 0 by omega]; rfl
 rw [putU_eq, h1, gT_zero]
 have : b7 (iW i) = UInt8.ofNat i.toNat := by
  rw [← UInt8.toNat_inj, iW, b7_of (by omega)]
  simp; omega
 rw [this]; rfl
theorem opB_ref {o : COp} (h : 0 ≤ o.k ∧ o.k < 128) : opB o = [putF o.add, UInt8.ofNat o.k.toNat] ++ numsB [o.a, o.b, o.u] ++ (if o.k = 2 then permB o.p else []) := by
 simp [opB, numsB, putU_small h, List.append_assoc]
theorem Vo.sh2 {o : COp} (h : Vo o) : o.p.act.length ≤ 12 ∧ o.p.path.length ≤ 104 := by
 rcases h.perm with e | e
 ·rw [e]; exact ⟨by decide, by decide⟩
 ·exact vp_sh e
theorem opB_sh {o : COp} (h : Vo o) : (opB o).length ≤ 200 := by
 have h1 := putU_len (iW o.k); have h2 := putU_len (iW o.a); have h3 := putU_len (iW o.b); have h4 := putU_len (iW o.u)
 have h5 := putB_lenG o.p.act; have h6 := putB_lenG o.p.path; have h7 := h.sh2
 have h9 : (if o.k = 2 then permB o.p else []).length ≤ 140 := by
  split
  ·unfold permB; simp only [List.length_append, List.length_singleton]; omega
  ·exact Nat.zero_le _
 unfold opB
 simp only [List.length_append, List.length_singleton]; omega
theorem fmO_sh {X : List COp} (h : ∀ o ∈ X, Vo o) : (X.flatMap opB).length ≤ 200 * X.length := by
 induction X with
 | nil => simp
 | cons o X ih =>
  rw [List.flatMap_cons, List.length_append, List.length_cons]
  have h1 := opB_sh (h o (by simp)); have h2 := ih (fun e he => h e (by simp [he])); omega
theorem obytesK_sh {X : List COp} (h : ∀ o ∈ X, Vo o) (k : Nat) : (obytesK X k).length ≤ 11 + 200 * X.length := by
 rw [obytesK, List.length_append]
 have h1 := putU_len (BitVec.ofNat 64 X.length)
 have h2 := fmO_sh (X := X.take k) (fun e he => h e (List.mem_of_mem_take he))
 have h3 : (X.take k).length ≤ X.length := by simp; omega
 have h4 : 200 * (X.take k).length ≤ 200 * X.length := Nat.mul_le_mul_left _ h3
 omega
theorem obytes_sh {X : List COp} (h : ∀ o ∈ X, Vo o) : (obytes X).length ≤ 11 + 200 * X.length := by
 have := obytesK_sh h X.length
 rwa [obytesK_end (Nat.le_refl _)] at this
theorem rdOs_pok {n : Nat} (hn : n ≤ 1000000) : ∀ {m : Nat} {s : RSt} {l : List COp}, (∀ o ∈ l, o.p.ok) → ∀ o ∈ (rdOs n m s l).2, o.p.ok
 | 0, s, l, h => h
 | m + 1, s, l, h => by
  rw [rdOs]
  split
  ·exact h
  ·exact rdOs_pok hn (fun o ho => (List.mem_append.1 ho).elim (h o) (fun q => by rw [List.mem_singleton.1 q]; exact rdO_pok n s hn))
theorem rdOs_len {n : Nat} : ∀ {m : Nat} {s : RSt} {l : List COp}, (rdOs n m s l).2.length ≤ l.length + m
 | 0, s, l => Nat.le_refl _
 | m + 1, s, l => by
  rw [rdOs]
  split
  ·show l.length ≤ _; omega
  ·have := rdOs_len (n := n) (m := m) (s := (rdO n s).1) (l := l ++ [(rdO n s).2])
   rw [List.length_append, List.length_singleton] at this; omega
theorem okR_vs {p : List UInt8} (hp : p.length ≤ 1000000) (h : okR p) : VS (rdAll p).2 ∧ (rdAll p).2.length ≤ p.length ∧ obytes (rdAll p).2 = p := by
 have h1 : ∀ o ∈ (rdAll p).2, o.p.ok := rdOs_pok hp (fun o ho => absurd ho (by simp))
 have h2 := vs_of h1 h.2.1
 rw [h.2.2] at h2
 refine ⟨h2.1, ?_, rdAll_back h.1⟩
 have h3 := rdOs_len (n := p.length) (m := (countS (p, 0) p.length).2) (s := (countS (p, 0) p.length).1) (l := [])
 have h4 := countS_le (p, 0) p.length
 simp only [List.length_nil, Nat.zero_add] at h3
 exact Nat.le_trans h3 h4
abbrev S3 := Option Addr × Nat × Nat
def encS3 (s : S3) : List Value := [.slice s.1 s.2.1 s.2.2]
theorem encS3_ok : EncOk encS3 1 := ⟨by decide, fun _ => rfl, fun x u hu => by
 simp [encS3] at hu
 subst hu; rfl⟩
end Go.Lx
