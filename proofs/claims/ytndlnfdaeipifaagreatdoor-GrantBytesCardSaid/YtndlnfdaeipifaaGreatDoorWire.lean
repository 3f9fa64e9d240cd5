/- Several texts in one file. -/
import Derived.Test.YtndlnfdaeipifaaGreatDoorOwn2
import Derived.Test.YtndlnfdaeipifaaGreatDoorGn
import Derived.Test.YtndlnfdaeipifaaGreatDoorDrawC
import Derived.Test.YtndlnfdaeipifaaGreatDoorHy
import Derived.Laws.IdiomStrings
/- A writer of bytes in memory; the rules of its operations. Nothing of a program stands here. -/
namespace Go.Lx
open Go Go.RowKit
set_option linter.unusedSimpArgs false
set_option linter.unusedVariables false
set_option linter.unnecessarySimpa false
def Wr (T e : TypeId) (D : Nat → Prop) (w : World) (v : Value) (l : List UInt8) : Prop := ∃ b u, v = .pointer (some ⟨b, 0, none⟩) ∧ D b ∧ Box w b T [u] ∧ Own encB 1 e (fun g => D g ∧ g ≠ b) w u l
section
variable {T e : TypeId} {D D' : Nat → Prop} {γ : Prop} {w w' : World} {v : Value} {l : List UInt8}
theorem Wr.keepD (h : Wr T e D w v l) (x : Bel γ D' w w') (hd : ∀ g, g < w.heap.size → D g → ¬ D' g) : Wr T e D w' v l :=
  let ⟨b, u, h1, h2, h3, h4⟩ := h
  ⟨b, u, h1, h2, h3.keep x (hd b h3.lt h2), h4.keepD x fun g hg hD => hd g hg hD.1⟩
theorem Wr.ext (h : Wr T e D w v l) (x : Ext γ w w') : Wr T e D w' v l := h.keepD x fun _ _ _ => id
theorem Wr.mono (h : Wr T e D w v l) (hd : ∀ g, g < w.heap.size → D g → D' g) : Wr T e D' w v l :=
  let ⟨b, u, h1, h2, h3, h4⟩ := h
  ⟨b, u, h1, hd b h3.lt h2, h3, h4.mono fun g hg hD => ⟨hd g hg hD.1, hD.2⟩⟩
end
section
variable {P : Program} {fr : Fr} {w : World} {d : Option Nat} {t : TypeId} {ps : String} {af : Array Edge} {g : Option (Nat × Bool)} {x y z : Operand} {T U : TypeId}
theorem wrapU8 (n : Nat) : IntKind.u8.wrap (n : Int) = ((UInt8.ofNat n).toNat : Int) := by
  rw [UInt8.toNat_ofNat']
  simp [IntKind.wrap, IntKind.bits, IntKind.signed]
theorem o_convUB {a : W64} (hP : P.underlying T = some (.int .u64)) (hP' : P.underlying U = some (.int .u8)) (hx : ev fr x = u64 a) : xop P fr w ⟨d, .convert T U x, t, ps, af, g⟩ = .ok (.value (.int .u8 ((UInt8.ofNat a.toNat).toNat : Int))) w := by
  have h := o_conv (w := w) (d := d) (t := t) (ps := ps) (af := af) (g := g) (k' := .u8) hP hP' hx
  rw [wrapU8] at h
  exact h
theorem o_convI {i : Int} (hP : P.underlying T = some (.int .i64)) (hP' : P.underlying U = some (.int .u64)) (hx : ev fr x = .int .i64 i) (h0 : 0 ≤ i) (hl : i < 18446744073709551616) : xop P fr w ⟨d, .convert T U x, t, ps, af, g⟩ = .ok (.value (u64 (BitVec.ofNat 64 i.toNat))) w := by
  obtain ⟨n, rfl⟩ := Int.eq_ofNat_of_zero_le h0
  exact o_convV hP hP' hx (by omega)
def a31 (a : Int) : Int := ((BitVec.ofInt 64 a &&& 31#64).toNat : Int)
theorem o_bandB {a b : UInt8} (hx : ev fr x = .int .u8 (a.toNat : Int)) (hy : ev fr y = .int .u8 (b.toNat : Int)) : xop P fr w ⟨d, .binOp .and T x y U, t, ps, af, g⟩ = .ok (.value (.int .u8 ((a &&& b).toNat : Int))) w := by
  have e1 : (BitVec.ofInt 8 (a.toNat : Int)) = a.toBitVec := by
    rw [BitVec.ofInt_natCast]; apply BitVec.eq_of_toNat_eq; rw [BitVec.toNat_ofNat]; exact Nat.mod_eq_of_lt a.toNat_lt
  have e2 : (BitVec.ofInt 8 (b.toNat : Int)) = b.toBitVec := by
    rw [BitVec.ofInt_natCast]; apply BitVec.eq_of_toNat_eq; rw [BitVec.toNat_ofNat]; exact Nat.mod_eq_of_lt b.toNat_lt
  have e : IntKind.u8.wrap ((BitVec.ofInt IntKind.u8.bits (a.toNat : Int) &&& BitVec.ofInt IntKind.u8.bits (b.toNat : Int)).toNat : Int) = ((a &&& b).toNat : Int) := by
    show IntKind.u8.wrap ((BitVec.ofInt 8 (a.toNat : Int) &&& BitVec.ofInt 8 (b.toNat : Int)).toNat : Int) = _
    rw [e1, e2, ← UInt8.toBitVec_and]
    show IntKind.u8.wrap (((a &&& b).toNat : Nat) : Int) = _
    rw [wrapU8, UInt8.ofNat_toNat]
  simp only [xop, execOp, hx, hy, eqGuard, binOp, Op.intBits]
  simp only [e]; simp
theorem o_borB {a b : UInt8} (hx : ev fr x = .int .u8 (a.toNat : Int)) (hy : ev fr y = .int .u8 (b.toNat : Int)) : xop P fr w ⟨d, .binOp .or T x y U, t, ps, af, g⟩ = .ok (.value (.int .u8 ((a ||| b).toNat : Int))) w := by
  have e1 : (BitVec.ofInt 8 (a.toNat : Int)) = a.toBitVec := by
    rw [BitVec.ofInt_natCast]; apply BitVec.eq_of_toNat_eq; rw [BitVec.toNat_ofNat]; exact Nat.mod_eq_of_lt a.toNat_lt
  have e2 : (BitVec.ofInt 8 (b.toNat : Int)) = b.toBitVec := by
    rw [BitVec.ofInt_natCast]; apply BitVec.eq_of_toNat_eq; rw [BitVec.toNat_ofNat]; exact Nat.mod_eq_of_lt b.toNat_lt
  have e : IntKind.u8.wrap ((BitVec.ofInt IntKind.u8.bits (a.toNat : Int) ||| BitVec.ofInt IntKind.u8.bits (b.toNat : Int)).toNat : Int) = ((a ||| b).toNat : Int) := by
    show IntKind.u8.wrap ((BitVec.ofInt 8 (a.toNat : Int) ||| BitVec.ofInt 8 (b.toNat : Int)).toNat : Int) = _
    rw [e1, e2, ← UInt8.toBitVec_or]
    show IntKind.u8.wrap (((a ||| b).toNat : Nat) : Int) = _
    rw [wrapU8, UInt8.ofNat_toNat]
  simp only [xop, execOp, hx, hy, eqGuard, binOp, Op.intBits]
  simp only [e]; simp
end
def postOwnAt {α : Type} (enc : α → List Value) (k : Nat) (e : TypeId) (kc : Nat) (u : Value) (l : List α) : PostC := fun _ w c => Own enc k e (fun b => c b = kc) w u l
theorem postOwnAt_stable {α : Type} {enc : α → List Value} {k kc : Nat} {e : TypeId} {u : Value} {l : List α} : StableC kc (postOwnAt enc k e kc u l) := fun v w c w' c' q hq hx hp => postOwn_stable u w c w' c' q hq hx hp
theorem OpC_elst {α : Type} {enc : α → List Value} {k : Nat} {e U : TypeId} {β : Prop} {P : Program} {fr : Fr} {w : World} {c : Nat → Nat} {ops : Array Oper} {ty : TypeId} {pos : String} {after : Array Edge} {kc : Nat} {x y : Operand} {v : Value} {l : List α} {a : Option Addr} {cp i m : Nat} {u : α} (h0 : kc ≠ 0)
    (he : EncOk enc k) (hs : ∀ w, (sizeOf U).run P w = .ok k w) (hx : ev fr x = .pointer (elp a (i * k))) (hy : ev fr y = v) (hv : v.cells.toList = enc u) (ho : Own enc k e (fun g => c g = kc) w (.slice a m cp) l) (hi : i < l.length) :
    OpC β kc P ops ⟨none, .store U x y, ty, pos, after, none⟩ fr w c (postOwnAt enc k e kc (.slice a m cp) (l.set i u)) := by
  rcases ho.row.2 with ⟨h1, h2⟩ | ⟨g, cap, cur, h1, h2, h3, h4, h5, h6, h7⟩
  · omega
  · have hsl : a = some ⟨g, 0, none⟩ ∧ m = l.length ∧ cp = cap := by simp at h1; exact h1
    obtain ⟨rfl, rfl, rfl⟩ := hsl
    rw [elp_some, Nat.zero_add] at hx
    have hlk : l.length * k ≤ cur.size := by rw [h6]; exact Nat.mul_le_mul_right _ h4
    have hik : i * k + k ≤ l.length * k := by rw [← Nat.succ_mul]; exact Nat.mul_le_mul_right _ hi
    have hvl : v.cells.toList.length = k := by rw [hv, he.len]
    have hst := run_storeCells_at (P := P) g (i * k) e v.cells.toList 0 cur w h3 (by rw [hvl]; omega) (by rw [hv]; exact he.one u)
    simp only [Nat.add_zero, hvl] at hst
    have hsz : v.cells.size = k := by rw [← Array.length_toList]; exact hvl
    have hcg : c g = kc := ho.loc g rfl
    refine .inl ⟨rfl, .inl ⟨lkV _ fr, w.setRow g (cur.toList.take (i * k) ++ v.cells.toList ++ cur.toList.drop (i * k + k)).toArray, c, .inr ⟨?_, rfl⟩, ⟨⟨rfl, rfl, rfl, by simp, fun j _ hj => setRow_other w g j _ (fun e => hj ⟨h0, by subst e; exact hcg⟩), fun _ => Nat.le_refl _⟩, fun _ _ => rfl⟩, ?_⟩⟩
    · simp [execOp, hx, hy, Instr.storeAt, Instr.sureAddr, storeVar, hs, hsz, hst]
    · have hcl : (cur.toList.take (i * k) ++ v.cells.toList ++ cur.toList.drop (i * k + k)).length = cur.size := by
        simp only [List.length_append, hvl, List.length_take, List.length_drop, Array.length_toList]; omega
      refine ⟨⟨by rw [fm_len he], .inr ⟨g, cp, _, by simp, h2, setRow_heap w g cur _ e _ h3, by simpa using h4, h5, by rw [List.size_toArray, hcl, h6], ?_⟩⟩, ho.loc⟩
      rw [List.length_set, List.toList_toArray, set_flat he hi, ← hv]
      have t1 : cur.toList.take (i * k) = (l.flatMap enc).take (i * k) := by rw [← h7, List.take_take]; congr 1; omega
      have t2 : (l.flatMap enc).drop (i * k + k) = (cur.toList.drop (i * k + k)).take (l.length * k - (i * k + k)) := by rw [← h7, List.drop_take]
      rw [t1, t2]
      have hA : ((l.flatMap enc).take (i * k) ++ v.cells.toList).length = i * k + k := by
        rw [List.length_append, hvl, List.length_take, fm_len he]; omega
      rw [List.take_append, hA, List.take_of_length_le (by rw [hA]; exact hik)]
section
variable {rd : Option Nat} {P : Program} {n : Nat} {K : Fr → World → Prop} {fr : Fr} {w : World} {l : List UInt8} {T U e : TypeId} {x : Operand} {a : Option Addr} {c : Nat} {F : Nat → Prop}
theorem o_bs {d : Option Nat} {t : TypeId} {ps : String} {af : Array Edge} {g : Option (Nat × Bool)} (hP : P.underlying T = some (.slice e)) (he : P.underlying e = some (.int .u8)) (hU : P.underlying U = some .string) (hx : ev fr x = .slice a l.length c) (hs : Sl encB 1 F w a c l) :
    xop P fr w ⟨d, .convert T U x, t, ps, af, g⟩ = .ok (.value (str l)) w := by
  have key : (convert T U (.slice a l.length c)).run P w = .ok (str l) w := by
    cases a with
    | none =>
      have h0 : c = 0 := hs.nil rfl
      have h1 := hs.le
      have h2 : l = [] := List.eq_nil_of_length_eq_zero (by omega)
      subst h2
      rw [run_convert_bytes_string w T U e none _ c hP he hU]
      simp [Conv.bytesToString, str]
      rfl
    | some ad =>
      refine run_convert_bytes_back w T U e ad c l hP he hU fun j hj => ?_
      have hne : l ≠ [] := by rintro rfl; simp at hj
      obtain ⟨b, off, h1, h2, h3⟩ := hs.cells encB_ok hne
      simp only [Option.some.injEq] at h1
      subst h1
      have hfm : (l.flatMap encB)[j]? = some (.int .u8 (l[j].toNat : Int)) := by
        have h4 := fm_get (i := j) (x := l[j]) encB_ok (List.getElem?_eq_getElem hj) 0 (by decide)
        simpa [encB] using h4
      have := h3 j _ hfm
      unfold Addr.add
      by_cases h : j = 0
      · subst h; simpa using this
      · rw [if_neg h]; exact this
  simp only [xop, execOp, hx, key, eqGuard]
  simp [key]
theorem Rg_sb {ops : Array Oper} {rest : List Oper} {d : Option Nat} {ty : TypeId} {pos : String} {af : Array Edge} (hd : dstOk n d = true) (hP : P.underlying T = some .string) (hU : P.underlying U = some (.slice e)) (he : P.underlying e = some (.int .u8)) (hx : ev fr x = str l) (hl : l.length ≤ 100000000)
    (hk : ∀ a' c' w', Ext False w w' → Sl encB 1 (fun g => w.heap.size ≤ g) w' a' c' l → Rg rd P n ops rest K (fr.put d (.slice a' l.length c')) w') :
    Rg rd P n ops (⟨d, .convert T U x, ty, pos, af, none⟩ :: rest) K fr w := by
  have hrun := run_bytes_of_string (P := P) w T U e ⟨l.toArray⟩ hP hU he
  have hsz : (⟨l.toArray⟩ : ByteArray).size = l.length := by simp [ByteArray.size]
  rw [hsz] at hrun
  refine Rg_run hd (v := .slice (some ⟨w.heap.size, 0, none⟩) l.length (grownCap w l.length 0 e)) (w' := w.drew.alloc (.cells (bytesRow ⟨l.toArray⟩ (grownCap w l.length 0 e)) e ((bytesRow ⟨l.toArray⟩ (grownCap w l.length 0 e)).size, (bytesRow ⟨l.toArray⟩ (grownCap w l.length 0 e)).size + 1))) ?_ (hk _ _ _ ((Ext.drew w).ex (Ext.alloc _ _)) ?_)
  · simp only [execOp, hx, str]
    simp [hrun]
  · refine ⟨grownCap_ge _ _ _ _, grownCap_le_maxLen _ _ _ _ (by unfold maxLen; omega), (fun h => by cases h), fun i v hi => ?_⟩
    have hil := (List.getElem?_eq_some_iff.1 hi).1
    refine ⟨w.heap.size, 0, rfl, ⟨Nat.le_refl _, by show w.heap.size < (w.heap.push _).size; rw [Array.size_push]; exact Nat.lt_succ_self _⟩, ?_, rfl⟩
    intro j u hj
    have hj0 : j = 0 := by
      have := (List.getElem?_eq_some_iff.1 hj).1
      simp [encB] at this; omega
    subst hj0
    have hu : u = .int .u8 (v.toNat : Int) := by simp [encB] at hj; exact hj.symm
    have hc := World.cell?_alloc_mark w.drew (bytesRow ⟨l.toArray⟩ (grownCap w l.length 0 e)) e ((bytesRow ⟨l.toArray⟩ (grownCap w l.length 0 e)).size, (bytesRow ⟨l.toArray⟩ (grownCap w l.length 0 e)).size + 1) i
    have hb := bytesRow_at ⟨l.toArray⟩ (grownCap w l.length 0 e) i (by simpa using hil)
    rw [hb] at hc
    rw [hu]
    have e1 : l[i] = v := by simpa using (List.getElem?_eq_some_iff.1 hi).2
    simp only [Nat.mul_one, Nat.zero_add, Nat.add_zero]
    simpa [e1] using hc
end
def OwA {α : Type} (enc : α → List Value) (k : Nat) (e : TypeId) (w : World) (g : Nat) (v : Value) (l : List α) : Prop := Own enc k e (fun b => b = g) w v l ∧ v.ownBlock = some g ∧ g < w.heap.size
section
variable {α : Type} {enc : α → List Value} {k kc : Nat} {e : TypeId} {D : Nat → Prop} {w w' : World} {g : Nat} {v : Value} {l : List α} {c : Nat → Nat}
theorem OwA.lt (h : OwA enc k e w g v l) : g < w.heap.size := h.2.2
theorem OwA.col (h : OwA enc k e w g v l) (hc : c g = kc) : Own enc k e (fun b => c b = kc) w v l := h.1.mono fun b _ hb => by subst hb; exact hc
theorem OwA.blk (h : OwA enc k e w g v l) (hb : w'.heap[g]? = w.heap[g]?) : OwA enc k e w' g v l := by
  obtain ⟨⟨hr, hl⟩, ho, hlt⟩ := h
  have hlt' : g < w'.heap.size := by
    rw [Array.getElem?_eq_getElem hlt] at hb
    exact (Array.getElem?_eq_some_iff.1 hb).1
  refine ⟨⟨⟨hr.1, ?_⟩, hl⟩, ho, hlt'⟩
  rcases hr.2 with ⟨h1, h2⟩ | ⟨g', cap, cur, h1, h2, h3, h4⟩
  · exact .inl ⟨h1, h2⟩
  · have e1 : g' = g := by rw [h1] at ho; simpa [Value.ownBlock] using ho
    subst e1
    exact .inr ⟨g', cap, cur, h1, h2, hb.trans h3, h4⟩
theorem Own.blk0 (h : Own enc k e D w v l) (hne : l ≠ []) : ∃ g, v.ownBlock = some g ∧ D g ∧ OwA enc k e w g v l := by
  obtain ⟨g, c, rfl⟩ := h.sm hne
  have hg : (Value.slice (some ⟨g, 0, none⟩) l.length c).ownBlock = some g := rfl
  exact ⟨g, hg, h.loc g hg, h.at (fun b _ hb => by rw [hg] at hb; cases hb; rfl), hg, h.lt g hg⟩
end
end Go.Lx
/- The bytes of grants; the order of grants does not matter: plain law. Nothing of a program stands here. -/
namespace Go.Lx
open Go
set_option linter.unusedSimpArgs false
set_option linter.unusedVariables false
def entB (e : Ent) : List UInt8 := putU (iW e.r) ++ putB e.p.act ++ putB e.p.path ++ [putF e.p.deep]
def gbytesK (m : List Ent) (k : Nat) : List UInt8 := putU (BitVec.ofNat 64 m.length) ++ (m.take k).flatMap entB
def gbytes (m : List Ent) : List UInt8 := putU (BitVec.ofNat 64 m.length) ++ m.flatMap entB
theorem gbytesK_zero (m : List Ent) : gbytesK m 0 = putU (BitVec.ofNat 64 m.length) := by simp [gbytesK]
theorem gbytesK_end {m : List Ent} {k : Nat} (h : m.length ≤ k) : gbytesK m k = gbytes m := by rw [gbytesK, List.take_of_length_le h, gbytes]
theorem gbytesK_succ {m : List Ent} {k : Nat} (h : k < m.length) : gbytesK m (k + 1) = (((gbytesK m k ++ putU (iW (m.getD k ez).r)) ++ putB (m.getD k ez).p.act) ++ putB (m.getD k ez).p.path) ++ [putF (m.getD k ez).p.deep] := by
  have e : m[k] = m.getD k ez := by simp [List.getD, h]
  rw [gbytesK, gbytesK, List.take_succ_eq_append_getElem h, List.flatMap_append, e]
  simp [entB, List.append_assoc]
theorem putB_lenG (l : List UInt8) : (putB l).length ≤ 11 + l.length := by
  rw [putB, List.length_append]
  have := putU_len (BitVec.ofNat 64 l.length); omega
end Go.Lx
/- Reading numbers and byte strings from the front of bytes: plain law. Nothing of a program stands here. -/
namespace Go.Lx
open Go
set_option linter.unusedSimpArgs false
set_option linter.unusedVariables false
set_option linter.unnecessarySimpa false
def grp (v : W64) (b : UInt8) : W64 := (v <<< 7) ||| BitVec.ofNat 64 (b &&& 127).toNat
def numGo : Nat → W64 → List UInt8 → W64 × Nat
  | _, _, [] => (0, 0)
  | k, v, b :: r => if ((k == 0 && b == 128) || decide (144115188075855871 < v.toNat)) = true then (0, 0) else if b.toNat < 128 then (grp v b, k + 1) else numGo (k + 1) (grp v b) r
def numR (l : List UInt8) : W64 × Nat := numGo 0 0 l
theorem and127 (b : UInt8) : (b &&& 127).toNat = b.toNat % 128 := by
  rw [UInt8.toNat_and]
  exact Nat.and_two_pow_sub_one_eq_mod b.toNat 7
theorem grp_nat {v : W64} {b : UInt8} (h : v.toNat < 2 ^ 57) : (grp v b).toNat = v.toNat * 128 + b.toNat % 128 := by
  have h1 : (BitVec.ofNat 64 (b &&& 127).toNat).toNat = b.toNat % 128 := by
    rw [BitVec.toNat_ofNat, and127]; omega
  have h2 : (v <<< 7).toNat = v.toNat * 128 := by
    rw [BitVec.toNat_shiftLeft, Nat.shiftLeft_eq]; omega
  rw [grp, BitVec.toNat_or, h1, h2]
  have h3 := Nat.two_pow_add_eq_or_of_lt (i := 7) (b := b.toNat % 128) (by omega) v.toNat
  rw [Nat.mul_comm] at h3
  exact h3.symm
theorem numGo_le : ∀ (l : List UInt8) (k : Nat) (v : W64), (numGo k v l).2 ≤ k + l.length
  | [], k, v => by simp [numGo]
  | b :: r, k, v => by
    rw [numGo]
    split
    · simp
    split
    · simp
    · have := numGo_le r (k + 1) (grp v b)
      rw [List.length_cons]; omega
theorem numR_le (l : List UInt8) : (numR l).2 ≤ l.length := by have := numGo_le l 0 0; rw [numR]; omega
theorem numGo_app : ∀ (A : List UInt8) (k : Nat) (v y : W64) (r : List UInt8), (∀ c ∈ A, 128 ≤ c.toNat) → (k = 0 → ∀ c, A.head? = some c → c ≠ 128) → (∀ j, j < A.length → ((A.take j).foldl grp v).toNat < 2 ^ 57) → A.foldl grp v = y → numGo k v (A ++ r) = numGo (k + A.length) y r
  | [], k, v, y, r, _, _, _, h => by simp at h; subst h; rfl
  | c :: A, k, v, y, r, h1, h2, h3, h4 => by
    have hc := h1 c (by simp)
    have hv : v.toNat < 2 ^ 57 := by have := h3 0 (by simp); simpa using this
    rw [List.cons_append, numGo, if_neg, if_neg (by omega)]
    · have := numGo_app A (k + 1) (grp v c) y r (fun d hd => h1 d (by simp [hd])) (fun e => by omega) (fun j hj => by have := h3 (j + 1) (by simp; omega); simpa using this) (by simpa using h4)
      rw [this, List.length_cons]; congr 1; omega
    · intro e
      rw [Bool.or_eq_true, Bool.and_eq_true] at e
      rcases e with ⟨e1, e2⟩ | e
      · exact h2 (by simpa using e1) c rfl (by simpa using e2)
      · have := of_decide_eq_true e; omega
theorem gT_fold (y : W64) (hy : y.toNat < 2 ^ 57) : (gT y).reverse.foldl grp 0 = y ∧ ∀ j, j < (gT y).length → (((gT y).reverse.take j).foldl grp 0).toNat < 2 ^ 57 := by
  rw [gT]
  split
  · rename_i h; subst h; exact ⟨rfl, fun j hj => by simp at hj⟩
  · rename_i h
    have hlt := shr7_lt h
    have hs : (y >>> 7).toNat = y.toNat / 128 := by rw [BitVec.toNat_ushiftRight, Nat.shiftRight_eq_div_pow]
    obtain ⟨ih, ihj⟩ := gT_fold (y >>> 7) (by omega)
    have hb := b7_nat y
    refine ⟨?_, fun j hj => ?_⟩
    · rw [List.reverse_cons, List.foldl_append, ih]
      show grp (y >>> 7) (b7 y ||| 128) = y
      apply BitVec.eq_of_toNat_eq
      rw [grp_nat (by omega), b8_nat _ (by omega), hs]; omega
    · rw [List.reverse_cons]
      simp only [List.length_cons] at hj
      rcases Nat.lt_or_ge j (gT (y >>> 7)).length with h1 | h1
      · rw [List.take_append_of_le_length (by rw [List.length_reverse]; omega)]; exact ihj j h1
      · have : j = (gT (y >>> 7)).length := by omega
        subst this
        rw [List.take_append_of_le_length (by rw [List.length_reverse]; omega), List.take_of_length_le (by rw [List.length_reverse]; omega), ih]; omega
termination_by y.toNat
decreasing_by exact shr7_lt (by assumption)
theorem gT_head (y : W64) : ∀ c, (gT y).reverse.head? = some c → c ≠ 128 := by
  rw [gT]
  split
  · intro c h; simp at h
  · rename_i h
    intro c hc
    rw [List.reverse_cons, List.head?_append] at hc
    have hb := b7_nat y
    cases hr : (gT (y >>> 7)).reverse.head? with
    | some d =>
      rw [hr] at hc
      simp at hc
      subst hc
      exact gT_head (y >>> 7) d hr
    | none =>
      rw [hr] at hc
      simp at hc
      have hz : gT (y >>> 7) = [] := by simpa using hr
      have hy0 : y >>> 7 = 0 := Classical.byContradiction fun hq => by rw [gT_some hq] at hz; cases hz
      have hs : (y >>> 7).toNat = y.toNat / 128 := by rw [BitVec.toNat_ushiftRight, Nat.shiftRight_eq_div_pow]
      rw [hy0] at hs
      have hyn : y.toNat ≠ 0 := fun e => h (BitVec.eq_of_toNat_eq (by simpa using e))
      intro e
      have h8 := b8_nat (b7 y) (by omega)
      rw [hc, e] at h8
      have : (128 : UInt8).toNat = 128 := rfl
      simp at hs
      omega
termination_by y.toNat
decreasing_by exact shr7_lt (by assumption)
theorem numR_putU (x : W64) (r : List UInt8) : numR (putU x ++ r) = (x, (putU x).length) := by
  have hb := b7_nat x
  have hs : (x >>> 7).toNat = x.toNat / 128 := by rw [BitVec.toNat_ushiftRight, Nat.shiftRight_eq_div_pow]
  have hlt : (x >>> 7).toNat < 2 ^ 57 := by have := x.isLt; omega
  obtain ⟨h1, h2⟩ := gT_fold (x >>> 7) hlt
  rw [putU_eq, numR, List.append_assoc, numGo_app _ 0 0 (x >>> 7) _ (fun c hc => gT_ge _ c (by simpa using hc)) (fun _ => gT_head _) (fun j hj => h2 j (by simpa using hj)) h1]
  rw [List.singleton_append, numGo, if_neg, if_pos (by omega)]
  · have e : grp (x >>> 7) (b7 x) = x := by
      apply BitVec.eq_of_toNat_eq
      rw [grp_nat hlt, hs]; omega
    rw [e]; simp
  · intro e
    rw [Bool.or_eq_true, Bool.and_eq_true] at e
    rcases e with ⟨_, e2⟩ | e
    · have : b7 x = 128 := by simpa using e2
      rw [this] at hb
      have : (128 : UInt8).toNat = 128 := rfl
      omega
    · have := of_decide_eq_true e; omega
theorem numC (k : Nat) (c : UInt8) (y : W64) : (((k : Int) == 0 && (c.toNat : Int) == 128) || decide ((144115188075855871 : Int) < (y.toNat : Int))) = ((k == 0 && c == 128) || decide (144115188075855871 < y.toNat)) := by
  have e1 : ((k : Int) == 0) = (k == 0) := by rw [Bool.eq_iff_iff]; simp
  have e2 : ((c.toNat : Int) == 128) = (c == 128) := by
    rw [Bool.eq_iff_iff, beq_iff_eq, beq_iff_eq, ← UInt8.toNat_inj]
    have : (128 : UInt8).toNat = 128 := rfl
    omega
  have e3 : decide ((144115188075855871 : Int) < (y.toNat : Int)) = decide (144115188075855871 < y.toNat) := by
    rw [Bool.eq_iff_iff, decide_eq_true_iff, decide_eq_true_iff]; omega
  rw [e1, e2, e3]
theorem drop_cons {l : List UInt8} {k : Nat} (h : k < l.length) : l.drop k = l.getD k 0 :: l.drop (k + 1) := by
  have e : l[k] = l.getD k 0 := by simp [List.getD, h]
  rw [← e]; exact List.drop_eq_getElem_cons h
theorem numGo_bad {l : List UInt8} {k : Nat} {v : W64} (h : k < l.length) (hb : ((k == 0 && l.getD k 0 == 128) || decide (144115188075855871 < v.toNat)) = true) : numGo k v (l.drop k) = (0, 0) := by
  rw [drop_cons h, numGo, if_pos hb]
theorem numGo_stop {l : List UInt8} {k : Nat} {v : W64} (h : k < l.length) (hb : ¬ ((k == 0 && l.getD k 0 == 128) || decide (144115188075855871 < v.toNat)) = true) (hs : (l.getD k 0).toNat < 128) : numGo k v (l.drop k) = (grp v (l.getD k 0), k + 1) := by
  rw [drop_cons h, numGo, if_neg hb, if_pos hs]
theorem numGo_on {l : List UInt8} {k : Nat} {v : W64} (h : k < l.length) (hb : ¬ ((k == 0 && l.getD k 0 == 128) || decide (144115188075855871 < v.toNat)) = true) (hs : ¬ (l.getD k 0).toNat < 128) : numGo k v (l.drop k) = numGo (k + 1) (grp v (l.getD k 0)) (l.drop (k + 1)) := by
  rw [drop_cons h, numGo, if_neg hb, if_neg hs]
abbrev RSt := List UInt8 × Int
def failS (s : RSt) (e : Int) : RSt := if (s.2 == 0) = true then (s.1, e) else s
def refS (s : RSt) (bad : Bool) (e : Int) : RSt := if bad = true then failS s e else s
def uintS (s : RSt) (most : W64) : RSt × W64 := if (s.2 == 0) = true then (if (numR s.1).2 = 0 then ((s.1, 6), 0) else if most.toNat < (numR s.1).1.toNat then ((s.1, 2), 0) else ((s.1.drop (numR s.1).2, s.2), (numR s.1).1)) else (s, 0)
theorem uintS_le (s : RSt) (most : W64) : (uintS s most).2.toNat ≤ most.toNat := by
  unfold uintS
  split
  · split
    · simp
    split
    · simp
    · simp only; omega
  · simp
def countS (s : RSt) (most : Nat) : RSt × Nat := if (s.2 == 0) = true then (if (numR s.1).2 = 0 then ((s.1, 6), 0) else if most < (numR s.1).1.toNat then ((s.1, 3), 0) else ((s.1.drop (numR s.1).2, s.2), (numR s.1).1.toNat)) else (s, 0)
def bytesS (s : RSt) (most : Nat) : RSt × List UInt8 := if (s.2 == 0) = true then (if (numR s.1).2 = 0 then ((s.1, 6), []) else if most < (numR s.1).1.toNat then ((s.1, 3), []) else if s.1.length - (numR s.1).2 < (numR s.1).1.toNat then ((s.1, 6), []) else ((s.1.drop ((numR s.1).2 + (numR s.1).1.toNat), s.2), (s.1.drop (numR s.1).2).take (numR s.1).1.toNat)) else (s, [])
def flagS (s : RSt) : RSt × Bool := if (s.2 == 0) = true then (if s.1 = [] ∨ 1 < (s.1.getD 0 0).toNat then ((s.1, 6), false) else ((s.1.drop 1, s.2), s.1.getD 0 0 == 1)) else (s, false)
def endS (s : RSt) : Int := if (s.2 == 0) = true ∧ s.1 ≠ [] then 6 else s.2
theorem flag_eq (c : UInt8) : ((c.toNat : Int) == 1) = (c == 1) := by
  rw [Bool.eq_iff_iff, beq_iff_eq, beq_iff_eq, ← UInt8.toNat_inj]
  have : (1 : UInt8).toNat = 1 := rfl
  omega
end Go.Lx
/- A reader of bytes in memory. Nothing of a program stands here. -/
namespace Go.Lx
open Go Go.RowKit
set_option linter.unusedSimpArgs false
set_option linter.unusedVariables false
abbrev rdC (u : Value) (e : Int) : List Value := [u, .int .i64 e]
def Rr (T : TypeId) (D : Nat → Prop) (w : World) (v : Value) (s : RSt) : Prop := ∃ b u, v = .pointer (some ⟨b, 0, none⟩) ∧ D b ∧ Box w b T [u, .int .i64 s.2] ∧ Rd encB 1 (fun g => D g ∧ g ≠ b) w u s.1
section
variable {T : TypeId} {D D' : Nat → Prop} {γ : Prop} {w w' : World} {v : Value} {s : RSt}
theorem Rr.keepD (h : Rr T D w v s) (x : Bel γ D' w w') (hd : ∀ g, g < w.heap.size → D g → ¬ D' g) : Rr T D w' v s :=
  let ⟨b, u, h1, h2, h3, a, c, h4, h5⟩ := h
  ⟨b, u, h1, h2, h3.keep x (hd b h3.lt h2), a, c, h4, h5.keep x fun g hg hD => hd g hg hD.1⟩
theorem Rr.ext (h : Rr T D w v s) (x : Ext γ w w') : Rr T D w' v s := h.keepD x fun _ _ _ => id
theorem Rr.mono (h : Rr T D w v s) (hd : ∀ g, g < w.heap.size → D g → D' g) : Rr T D' w v s :=
  let ⟨b, u, h1, h2, h3, a, c, h4, h5⟩ := h
  ⟨b, u, h1, hd b h3.lt h2, h3, a, c, h4, h5.mono fun g hg hD => ⟨hd g hg hD.1, hD.2⟩⟩
theorem Rr.ptr (h : Rr T D w v s) : ∃ b, v = .pointer (some ⟨b, 0, none⟩) := let ⟨b, _, h1, _⟩ := h; ⟨b, h1⟩
theorem Rr.open {b : Nat} (h : Rr T D w (.pointer (some ⟨b, 0, none⟩)) s) : ∃ a c, Box w b T [.slice a s.1.length c, .int .i64 s.2] ∧ Sl encB 1 (fun g => D g ∧ g ≠ b) w a c s.1 := by
  obtain ⟨b', u, h1, h2, h3, a, c, rfl, h5⟩ := h
  simp only [Value.pointer.injEq, Option.some.injEq, Addr.mk.injEq, and_true] at h1
  subst h1
  exact ⟨a, c, h3, h5⟩
end
theorem refS_no {s : RSt} {b : Bool} {e : Int} (h : b = false) : refS s b e = s := by rw [refS, h]; rfl
theorem refS_yes {s : RSt} {b : Bool} {e : Int} (h : b = true) (hok : (s.2 == 0) = true) : refS s b e = (s.1, e) := by rw [refS, if_pos h, failS, if_pos hok]
section
variable {P : Program} {fr : Fr} {w : World} {d : Option Nat} {t : TypeId} {ps : String} {af : Array Edge} {g : Option (Nat × Bool)} {x y : Operand} {T U : TypeId}
theorem o_quoU {a b : W64} (hx : ev fr x = u64 a) (hy : ev fr y = u64 b) (hb : b ≠ 0) : xop P fr w ⟨d, .binOp .quo T x y U, t, ps, af, g⟩ = .ok (.value (u64 (a / b))) w := by
  have h0 : (b.toNat : Int) ≠ 0 := by
    intro h
    apply hb
    apply BitVec.eq_of_toNat_eq
    have : b.toNat = 0 := by omega
    rw [this]; rfl
  have hd : a.toNat / b.toNat ≤ a.toNat := Nat.div_le_self _ _
  have hl := a.isLt
  have h2 : ((a.toNat : Int) / (b.toNat : Int)) = ((a.toNat / b.toNat : Nat) : Int) := by rw [Int.natCast_ediv]
  have h1 : ¬ (b.toNat = 0) := by omega
  simp [xop, execOp, hx, hy, u64, eqGuard, binOp, Op.intDiv, h0, h1]
  rw [h2, wrapU', BitVec.toNat_ofNat, Nat.mod_eq_of_lt (by omega)]
theorem o_addB {a b : UInt8} (hx : ev fr x = .int .u8 (a.toNat : Int)) (hy : ev fr y = .int .u8 (b.toNat : Int)) : xop P fr w ⟨d, .binOp .add T x y U, t, ps, af, g⟩ = .ok (.value (.int .u8 ((a + b).toNat : Int))) w := by
  have h := o_addw (P := P) (w := w) (d := d) (t := t) (ps := ps) (af := af) (g := g) (T := T) (U := U) hx hy
  have e : IntKind.u8.wrap ((a.toNat : Int) + (b.toNat : Int)) = ((a + b).toNat : Int) := by
    have h1 : ((a.toNat : Int) + (b.toNat : Int)) = ((a.toNat + b.toNat : Nat) : Int) := by omega
    rw [h1, wrapU8, UInt8.toNat_ofNat', UInt8.toNat_add]
  rw [e] at h
  exact h
end
theorem b7_rem (x : W64) : UInt8.ofNat (x % 128#64).toNat = b7 x := by
  apply UInt8.toNat_inj.1
  have h8 : (128#64).toNat = 128 := rfl
  rw [b7_nat, UInt8.toNat_ofNat', BitVec.toNat_umod, h8]
  omega
theorem b7_add (x : W64) : UInt8.ofNat (x % 128#64).toNat + 128 = b7 x ||| 128 := by
  rw [b7_rem]
  have h := b7_nat x
  apply UInt8.toNat_inj.1
  rw [UInt8.toNat_add, b8_nat _ (by omega)]
  have : (128 : UInt8).toNat = 128 := rfl
  omega
theorem quo128 (x : W64) : x / 128#64 = x >>> 7 := by
  apply BitVec.eq_of_toNat_eq
  rw [BitVec.toNat_udiv, BitVec.toNat_ushiftRight, Nat.shiftRight_eq_div_pow]; rfl
end Go.Lx
/- Reading grants back: plain law. Nothing of a program stands here. -/
namespace Go.Lx
open Go
set_option linter.unusedSimpArgs false
set_option linter.unusedVariables false
def rdE (s : RSt) : RSt × Ent :=
  let a := uintS s (BitVec.ofNat 64 63)
  let b := bytesS a.1 12
  let c := bytesS b.1 104
  let d := flagS c.1
  (d.1, ⟨(a.2.toNat : Int), ⟨b.2, c.2, d.2⟩⟩)
def rdGo : Nat → RSt → List Ent → Option (RSt × List Ent)
  | 0, s, m => some (s, m)
  | n + 1, s, m => if (rdE s).1.2 ≠ 0 then some ((rdE s).1, m) else if (grantR m (rdE s).2).2 ≠ 0 then none else rdGo n (rdE s).1 (grantR m (rdE s).2).1
def readG (p : List UInt8) : Option (List Ent) :=
  match rdGo (countS (p, 0) 1000).2 (countS (p, 0) 1000).1 [] with
  | none => none
  | some (s, m) => if endS s ≠ 0 ∨ gbytes m ≠ p then none else some m
theorem bytesS_len (s : RSt) (most : Nat) : (bytesS s most).2.length ≤ most := by
  unfold bytesS
  split
  · split
    · simp
    split
    · simp
    split
    · simp
    · simp only [List.length_take]; omega
  · simp
def ShE (m : List Ent) : Prop := ∀ e ∈ m, e.p.act.length ≤ 12 ∧ e.p.path.length ≤ 104
theorem rdE_sh (s : RSt) : (rdE s).2.p.act.length ≤ 12 ∧ (rdE s).2.p.path.length ≤ 104 := ⟨bytesS_len _ _, bytesS_len _ _⟩
theorem rdE_ok (s : RSt) : (rdE s).2.p.ok := by have := rdE_sh s; unfold Perm.ok; omega
theorem grant_sh {m : List Ent} {e : Ent} (h : ShE m) (he : e.p.act.length ≤ 12 ∧ e.p.path.length ≤ 104) : ShE (grantR m e).1 := by
  unfold grantR
  split
  · exact h
  split
  · exact h
  split
  · exact h
  split
  · exact h
  · intro x hx
    rcases insGo_mem.1 hx with rfl | hx
    · exact he
    · exact h x hx
theorem rdGo_ok : ∀ (n : Nat) (s : RSt) (m : List Ent) (r : RSt × List Ent), OkG m → ShE m → rdGo n s m = some r → OkG r.2 ∧ ShE r.2
  | 0, s, m, r, h, hs, e => by simp [rdGo] at e; subst e; exact ⟨h, hs⟩
  | n + 1, s, m, r, h, hs, e => by
    rw [rdGo] at e
    split at e
    · simp at e; subst e; exact ⟨h, hs⟩
    split at e
    · cases e
    · exact rdGo_ok n _ _ r (h.grant (rdE_ok s)) (grant_sh hs (rdE_sh s)) e
theorem readG_some {p : List UInt8} {m : List Ent} (h : readG p = some m) : OkG m ∧ ShE m ∧ gbytes m = p := by
  unfold readG at h
  cases hr : rdGo (countS (p, 0) 1000).2 (countS (p, 0) 1000).1 [] with
  | none => rw [hr] at h; cases h
  | some r =>
    obtain ⟨s, q⟩ := r
    rw [hr] at h
    simp only at h
    split at h
    · cases h
    · rename_i hn
      simp only [Option.some.injEq] at h
      subst h
      have := rdGo_ok _ _ _ _ OkG.nil (fun e he => by cases he) hr
      exact ⟨this.1, this.2, Classical.byContradiction fun e => hn (.inr e)⟩
theorem uintS_put {x most : W64} {r : List UInt8} (h : x.toNat ≤ most.toNat) : uintS (putU x ++ r, 0) most = ((r, 0), x) := by
  have hn : (putU x).length ≠ 0 := by rw [putU_eq]; simp
  rw [uintS, if_pos (show ((0 : Int) == 0) = true from rfl)]
  simp only [numR_putU]
  rw [if_neg hn, if_neg (by omega), List.drop_left]
theorem countS_put {x : W64} {most : Nat} {r : List UInt8} (h : x.toNat ≤ most) : countS (putU x ++ r, 0) most = ((r, 0), x.toNat) := by
  have hn : (putU x).length ≠ 0 := by rw [putU_eq]; simp
  rw [countS, if_pos (show ((0 : Int) == 0) = true from rfl)]
  simp only [numR_putU]
  rw [if_neg hn, if_neg (by omega), List.drop_left]
theorem bytesS_put {l r : List UInt8} {most : Nat} (h : l.length ≤ most) (h2 : l.length < 2 ^ 64) : bytesS (putB l ++ r, 0) most = ((r, 0), l) := by
  have hn : (putU (BitVec.ofNat 64 l.length)).length ≠ 0 := by rw [putU_eq]; simp
  have hv : (BitVec.ofNat 64 l.length).toNat = l.length := by rw [BitVec.toNat_ofNat]; exact Nat.mod_eq_of_lt h2
  rw [bytesS, if_pos (show ((0 : Int) == 0) = true from rfl)]
  simp only [putB, List.append_assoc, numR_putU, hv]
  rw [if_neg hn, if_neg (by omega), if_neg (by simp only [List.length_append]; omega), List.drop_left, List.take_left, ← List.drop_drop, List.drop_left, List.drop_left]
theorem flagS_put (b : Bool) (r : List UInt8) : flagS (putF b :: r, 0) = ((r, 0), b) := by
  rw [flagS, if_pos (show ((0 : Int) == 0) = true from rfl), if_neg (by cases b <;> simp [putF])]
  cases b <;> simp [putF]
theorem rdE_put {e : Ent} (hr : 0 ≤ e.r ∧ e.r ≤ 63) (h : e.p.act.length ≤ 12 ∧ e.p.path.length ≤ 104) (r : List UInt8) : rdE (entB e ++ r, 0) = ((r, 0), e) := by
  have hi : (iW e.r).toNat = e.r.toNat := by rw [iW, BitVec.toNat_ofNat]; exact Nat.mod_eq_of_lt (by omega)
  have h63 : (BitVec.ofNat 64 63 : W64).toNat = 63 := by decide
  rw [entB]
  simp only [List.append_assoc, List.singleton_append]
  unfold rdE
  rw [uintS_put (by rw [hi, h63]; omega)]
  simp only
  rw [bytesS_put h.1 (by omega)]
  simp only
  rw [bytesS_put h.2 (by omega)]
  simp only
  rw [flagS_put, hi]
  obtain ⟨r0, a, p, d⟩ := e
  simp only at hr ⊢
  rw [Int.toNat_of_nonneg hr.1]
theorem grant_end {m : List Ent} {e : Ent} (h : OkG (m ++ [e])) : grantR m e = (m ++ [e], 0) := by
  have hv := h.ve e (by simp)
  have hl := h.len
  simp only [List.length_append, List.length_singleton] at hl
  have hp := List.pairwise_append.1 h.asc
  have hlt : ∀ y ∈ m, cmpE y e < 0 := fun y hy => hp.2.2 y hy e (by simp)
  have hn : e ∉ m := fun q => by
    have h1 := hlt e q
    have h2 := (cmpE_eq hv hv).2 rfl
    omega
  have hc : checkS e.p = 0 := hv.2.2.2
  rw [grantR, if_neg (by have := hv.1; have := hv.2.1; omega), if_neg (by rw [hc]; simp), if_neg hn, if_neg (by omega), insGo_none]
  rw [List.any_eq_false]
  intro y hy
  have h1 := hlt y hy
  have h2 := cmpE_anti (h.ve y (by simp [hy])) hv
  simp; omega
theorem rdGo_put : ∀ (r m : List Ent), OkG (m ++ r) → ShE r → rdGo r.length (r.flatMap entB, 0) m = some (([], 0), m ++ r)
  | [], m, _, _ => by simp [rdGo]
  | e :: r, m, h, hs => by
    have hv := h.ve e (by simp)
    have e1 := rdE_put (e := e) ⟨by have := hv.1; omega, hv.2.1⟩ (hs e (by simp)) (r.flatMap entB)
    have h2 : OkG ((m ++ [e]) ++ r) := by rw [List.append_assoc]; exact h
    have h3 : OkG (m ++ [e]) := ⟨(List.pairwise_append.1 h2.asc).1, fun x hx => h2.ve x (List.mem_append_left _ hx), Nat.le_trans (by simp) h2.len⟩
    rw [List.flatMap_cons, List.length_cons, rdGo, e1, grant_end h3, if_neg (by simp), if_neg (by simp), rdGo_put r _ h2 (fun x hx => hs x (by simp [hx])), List.append_assoc]
    rfl
theorem readG_put {m : List Ent} (h : OkG m) (hs : ShE m) : readG (gbytes m) = some m := by
  have hl := h.len
  have hn : (BitVec.ofNat 64 m.length : W64).toNat = m.length := by rw [BitVec.toNat_ofNat]; exact Nat.mod_eq_of_lt (by omega)
  have e1 : countS (gbytes m, 0) 1000 = ((m.flatMap entB, 0), m.length) := by rw [gbytes, countS_put (by rw [hn]; exact hl), hn]
  unfold readG
  rw [e1]
  simp only
  rw [rdGo_put m [] (by simpa using h) hs]
  simp [endS]
theorem readG_none {p : List UInt8} {m : List Ent} (h : OkG m) (hs : ShE m) (hr : readG p = none) : p ≠ gbytes m := fun e => by
  rw [e, readG_put h hs] at hr; cases hr
theorem splitS_sum : ∀ (l : Str), l.length + 1 = ((splitS l).map fun x => x.length + 1).sum
  | [] => by simp [splitS]
  | c :: r => by
    have ih := splitS_sum r
    rw [splitS]
    split
    · simp only [List.map_cons, List.sum_cons, List.length_cons, List.length_nil]; omega
    · cases hr : splitS r with
      | nil => rw [hr] at ih; simp at ih
      | cons x q =>
        rw [hr] at ih
        simp only [List.map_cons, List.sum_cons, List.length_cons] at ih ⊢
        omega
theorem sum_le {l : List Str} {k : Nat} (h : ∀ x ∈ l, x.length ≤ k) : (l.map fun x => x.length + 1).sum ≤ l.length * (k + 1) := by
  induction l with
  | nil => simp
  | cons x l ih =>
    have h1 := h x (by simp); have h2 := ih (fun y hy => h y (by simp [hy]))
    simp only [List.map_cons, List.sum_cons, List.length_cons]
    rw [Nat.add_mul]; omega
theorem nmS_len {l : Str} (h : nmS l = true) : l.length ≤ 12 := by
  simp only [nmS, Bool.and_eq_true, Bool.not_eq_true', Bool.or_eq_false_iff, decide_eq_false_iff_not] at h
  omega
theorem namedS_len {l : Str} (h : namedS l = true) : l.length ≤ 12 := by
  simp only [namedS, Bool.and_eq_true, Bool.not_eq_true', Bool.or_eq_false_iff, decide_eq_false_iff_not] at h
  omega
theorem splitOk_len {p : Str} (h : splitOk p = true) : p.length ≤ 104 := by
  unfold splitOk splitP at h
  split at h
  · rename_i e
    have : p = [47] := by simpa using e
    rw [this]; simp
  split at h
  · simp at h
  split at h
  · simp at h
  split at h
  · rename_i h1 h2 h3
    have h4 := splitS_sum (p.drop 1)
    have h5 := sum_le (l := splitS (p.drop 1)) (k := 12) (fun x hx => namedS_len (List.all_eq_true.1 h3 x hx))
    have h6 : (splitS (p.drop 1)).length ≤ 8 := by omega
    have h7 : (splitS (p.drop 1)).length * (12 + 1) ≤ 8 * 13 := Nat.mul_le_mul_right _ h6
    have h8 : (p.drop 1).length = p.length - 1 := List.length_drop ..
    omega
  · simp at h
theorem vp_sh {x : Perm} (h : Vp x) : x.act.length ≤ 12 ∧ x.path.length ≤ 104 := by
  refine ⟨nmS_len ?_, splitOk_len h.path⟩
  have := h.2
  unfold checkS at this
  cases hn : nmS x.act <;> simp [hn] at this ⊢
theorem OkG.sh {m : List Ent} (h : OkG m) : ShE m := fun e he => vp_sh (h.ve e he).2.2
theorem entB_sh {e : Ent} (h : e.p.act.length ≤ 12 ∧ e.p.path.length ≤ 104) : (entB e).length ≤ 200 := by
  rw [entB, List.length_append, List.length_append, List.length_append]
  have h1 := putU_len (iW e.r); have h2 := putB_lenG e.p.act; have h3 := putB_lenG e.p.path
  simp; omega
theorem gbytesK_sh {m : List Ent} (h : OkG m) (k : Nat) : (gbytesK m k).length ≤ 300000 := by
  have hl := h.len
  have aux : ∀ l : List Ent, ShE l → (l.flatMap entB).length ≤ 200 * l.length := by
    intro l
    induction l with
    | nil => intro _; simp
    | cons e l ih =>
      intro hs
      rw [List.flatMap_cons, List.length_append, List.length_cons]
      have h1 := entB_sh (hs e (by simp)); have h2 := ih (fun x hx => hs x (by simp [hx])); omega
  rw [gbytesK, List.length_append]
  have h1 := putU_len (BitVec.ofNat 64 m.length)
  have h2 := aux (m.take k) (fun x hx => h.sh x (List.mem_of_mem_take hx))
  have h3 : (m.take k).length ≤ m.length := by simp; omega
  omega
theorem gbytes_sh {m : List Ent} (h : OkG m) : (gbytes m).length ≤ 300000 := by
  have := gbytesK_sh h m.length
  rwa [gbytesK_end (Nat.le_refl _)] at this
theorem uintS_dec (s : RSt) (most : W64) : (uintS s most).1.1.length ≤ s.1.length := by
  unfold uintS
  (repeat' split) <;> simp
theorem bytesS_dec (s : RSt) (most : Nat) : (bytesS s most).1.1.length ≤ s.1.length := by
  unfold bytesS
  (repeat' split) <;> simp
theorem flagS_dec (s : RSt) : (flagS s).1.1.length ≤ s.1.length := by
  unfold flagS
  (repeat' split) <;> simp
theorem countS_dec (s : RSt) (most : Nat) : (countS s most).1.1.length ≤ s.1.length := by
  unfold countS
  (repeat' split) <;> simp
theorem countS_le (s : RSt) (most : Nat) : (countS s most).2 ≤ most := by
  unfold countS
  split
  · split
    · simp
    split
    · simp
    · simp only; omega
  · simp
theorem rdE_dec (s : RSt) : (rdE s).1.1.length ≤ s.1.length :=
  Nat.le_trans (flagS_dec _) (Nat.le_trans (bytesS_dec _ _) (Nat.le_trans (bytesS_dec _ _) (uintS_dec _ _)))
section
variable {p : List UInt8} {N k : Nat} {s : RSt} {m : List Ent}
theorem rdGo_on (hk : k < N) (h1 : (rdE s).1.2 = 0) (h2 : (grantR m (rdE s).2).2 = 0) : rdGo (N - k) s m = rdGo (N - (k + 1)) (rdE s).1 (grantR m (rdE s).2).1 := by
  rw [show N - k = (N - (k + 1)) + 1 by omega, rdGo, if_neg (by simpa using h1), if_neg (by simpa using h2)]
theorem rdGo_brk (hk : k < N) (h1 : (rdE s).1.2 ≠ 0) : rdGo (N - k) s m = some ((rdE s).1, m) := by
  rw [show N - k = (N - (k + 1)) + 1 by omega, rdGo, if_pos h1]
theorem rdGo_err (hk : k < N) (h1 : (rdE s).1.2 = 0) (h2 : (grantR m (rdE s).2).2 ≠ 0) : rdGo (N - k) s m = none := by
  rw [show N - k = (N - (k + 1)) + 1 by omega, rdGo, if_neg (by simpa using h1), if_pos h2]
theorem readG_err (h : rdGo (countS (p, 0) 1000).2 (countS (p, 0) 1000).1 [] = none) : readG p = none := by unfold readG; rw [h]
theorem readG_end1 (h : rdGo (countS (p, 0) 1000).2 (countS (p, 0) 1000).1 [] = some (s, m)) (he : ¬ endS s = 0) : readG p = none := by
  unfold readG; rw [h]; simp only; rw [if_pos (.inl he)]
theorem readG_end2 (h : rdGo (countS (p, 0) 1000).2 (countS (p, 0) 1000).1 [] = some (s, m)) (he : ¬ gbytes m = p) : readG p = none := by
  unfold readG; rw [h]; simp only; rw [if_pos (.inr he)]
theorem readG_end3 (h : rdGo (countS (p, 0) 1000).2 (countS (p, 0) 1000).1 [] = some (s, m)) (h1 : endS s = 0) (h2 : gbytes m = p) : readG p = some m := by
  unfold readG; rw [h]; simp only; rw [if_neg (by rintro (q | q); exact q h1; exact q h2)]
end
theorem gbytes_inj {a b : List Ent} (ha : OkG a) (hb : OkG b) (h : gbytes a = gbytes b) : a = b := by
  have h1 := readG_put ha ha.sh
  rw [h, readG_put hb hb.sh] at h1
  exact (Option.some.inj h1).symm
theorem gbytes_pos (m : List Ent) : 1 ≤ (gbytes m).length := by rw [gbytes, List.length_append, putU_eq, List.length_append]; simp; omega
theorem gb_law {m m2 : List Ent} {q : List UInt8} (hm : OkG m) (h2 : OkG m2) (hq : gbytes m2 = q) : ((m2 == m) == (gbytes m == q)) = true := by
  subst hq
  have e : (m2 == m) = (gbytes m == gbytes m2) := by
    rw [Bool.eq_iff_iff, beq_iff_eq, beq_iff_eq]
    exact ⟨fun h => by rw [h], fun h => (gbytes_inj hm h2 h).symm⟩
  rw [e]; exact beq_self_eq_true _
end Go.Lx
