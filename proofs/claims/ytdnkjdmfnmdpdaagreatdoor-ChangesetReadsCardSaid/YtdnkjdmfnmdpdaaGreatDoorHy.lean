/- Several texts in one file. -/
import Derived.Test.YtdnkjdmfnmdpdaaGreatDoorTz
import Derived.Test.YtdnkjdmfnmdpdaaGreatDoorSess
import Derived.Test.YtdnkjdmfnmdpdaaGreatDoorWit
import Derived.Lib.BitFns
import Derived.Test.YtdnkjdmfnmdpdaaGreatDoorDraw
import Derived.Test.YtdnkjdmfnmdpdaaGreatDoorMore
import Derived.Laws.IdiomStrings
import Derived.Test.YtdnkjdmfnmdpdaaGreatDoorPure11e
set_option linter.unusedSimpArgs false
set_option linter.unusedVariables false
set_option linter.unnecessarySimpa false
/- Orders and hierarchies as results; calls that make own slices in a region that draws. Nothing of a program stands here. -/
namespace Go.Lx
open Go Go.RowKit
theorem comp_len {α : Type} [BEq α] : ∀ (l acc : List α), (l.foldl compStep acc).length ≤ acc.length + l.length
 | [], acc => by simp
 | y :: l, acc => by
  rw [List.foldl_cons]
  refine Nat.le_trans (comp_len l _) ?_
  unfold compStep
  split
  ·simp
  ·simp; omega
theorem compL_len {α : Type} [BEq α] (l : List α) : (compL l).length ≤ l.length := by
 have := comp_len l []
 simpa [compL] using this
theorem HOk.congr {o : OV} {L M : List Pr} (h : HOk o L) (hm : ∀ x, x ∈ L ↔ x ∈ M) (hl : L.length ≤ M.length) : HOk o M :=
 ⟨h.n, fun x => (h.ps x).trans (hm x), Nat.le_trans h.le hl, h.be.congr hm, h.ab.congr hm⟩
section
variable {α : Type} {enc : α → List Value} {s : Nat} {e : TypeId} {β : Prop} {P : Program} {ops : Array Oper} {o : Oper} {fr : Fr} {w : World} {c : Nat → Nat} {f : FuncId} {args : Array Value} {l : List α} {kc : Nat}
theorem OpC_own (hg : o.guard = none) (h : xop P fr w o = .ok (.enter f args) w) (hk : Ok P f args w fun v' w' => Own enc s e (Fsh w w') w' v' l ∧ Ext β w w') (hd : o.dst.isSome = true := by rfl) : OpC β kc P ops o fr w c (postOwn enc s e kc l) :=
 .inl ⟨by simp [Region.wanted, hg], .inr ⟨f, args, w, h, hd, hk.mono fun v' w' ⟨h1, x⟩ => ⟨newC c w kc, StepC.ext x fun _ hb => newC_old hb, h1.mono fun b _ hb => newC_new hb.1⟩⟩⟩
end
def KeepS (S : (Nat → Prop) → Value → World → Prop) : Prop := ∀ (F : Nat → Prop) (v : Value) (γ : Prop) (D : Nat → Prop) (w w' : World), Bel γ D w w' → (∀ b, b < w.heap.size → F b → ¬ D b) → S F v w → S F v w'
def postW (S : (Nat → Prop) → Value → World → Prop) : PostC := fun v w c => ∃ F, (∀ b, F b → b < w.heap.size ∧ c b = 0) ∧ S F v w
theorem Zg {S : (Nat → Prop) → Value → World → Prop} {kc : Nat} (hS : KeepS S) : StableC kc (postW S) := by
 intro v w c w' c' q hq hx ⟨F, hF, hr⟩
 refine ⟨F, fun b hb => ⟨Nat.lt_of_lt_of_le (hF b hb).1 hx.bel.size, (hx.col b (hF b hb).1).trans (hF b hb).2⟩, hS _ _ _ _ _ _ hx.bel (fun b _ hb hd => hd.1 ?_) hr⟩
 rw [← hd.2]; exact (hF b hb).2
theorem OpC_W {S : (Nat → Prop) → Value → World → Prop} {β : Prop} {k : Nat} {P : Program} {ops : Array Oper} {o : Oper} {fr : Fr} {w : World} {c : Nat → Nat} {f : FuncId} {args : Array Value} (hg : o.guard = none) (h : xop P fr w o = .ok (.enter f args) w) (hk : Ok P f args w fun v' w' => S (Fsh w w') v' w' ∧ Ext β w w') (hd : o.dst.isSome = true := by rfl) : OpC β k P ops o fr w c (postW S) :=
 .inl ⟨by simp [Region.wanted, hg], .inr ⟨f, args, w, h, hd, hk.mono fun _ w' ⟨a, b⟩ => ⟨newC c w 0, StepC.ext b fun _ hb => newC_old hb, Fsh w w', fun b hb => ⟨hb.2, newC_new hb.1⟩, a⟩⟩⟩
def OdRes (L : List Pr) (F : Nat → Prop) (v : Value) (w : World) : Prop := ∃ p o, v = .tuple #[.pointer (some ⟨p, 0, none⟩), .int .i64 0] ∧ OdAt F w p o ∧ HOk o L
def OdPtr (L : List Pr) (F : Nat → Prop) (v : Value) (w : World) : Prop := ∃ p o, v = .pointer (some ⟨p, 0, none⟩) ∧ OdAt F w p o ∧ HOk o L
theorem OdRes.keepS (L : List Pr) : KeepS (OdRes L) := fun F v γ D w w' x hd ⟨p, o, h1, h2, h3⟩ => ⟨p, o, h1, h2.keep x hd, h3⟩
theorem OdPtr.keepS (L : List Pr) : KeepS (OdPtr L) := fun F v γ D w w' x hd ⟨p, o, h1, h2, h3⟩ => ⟨p, o, h1, h2.keep x hd, h3⟩
def HyIs (w : World) (v : Value) (L : List Pr) : Prop := ∃ ph po o, v = .pointer (some ⟨ph, 0, none⟩) ∧ At w ph 0 [.pointer (some ⟨po, 0, none⟩)] ∧ OdAt (Lt w.heap.size) w po o ∧ HOk o L
theorem HyIs.ext {γ : Prop} {w w' : World} {v : Value} {L : List Pr} (h : HyIs w v L) (x : Ext γ w w') : HyIs w' v L :=
 let ⟨ph, po, o, h1, h2, h3, h4⟩ := h
 ⟨ph, po, o, h1, h2.keep x id, (h3.ext x).mono fun _ hb _ => hb, h4⟩
theorem HyIs.congr {w : World} {v : Value} {L M : List Pr} (h : HyIs w v L) (hm : ∀ x, x ∈ L ↔ x ∈ M) (hl : L.length ≤ M.length) : HyIs w v M :=
 let ⟨ph, po, o, h1, h2, h3, h4⟩ := h
 ⟨ph, po, o, h1, h2, h3, h4.congr hm hl⟩
theorem OpC_W2 {S : (Nat → Prop) → Value → World → Prop} {β : Prop} {k : Nat} {P : Program} {ops : Array Oper} {o : Oper} {fr : Fr} {w : World} {c : Nat → Nat} {f : FuncId} {args : Array Value} (G : Nat → Prop) (hG : ∀ b, G b → b < w.heap.size ∧ c b = 0) (hg : o.guard = none) (h : xop P fr w o = .ok (.enter f args) w) (hk : Ok P f args w fun v' w' => S (fun b => G b ∨ Fsh w w' b) v' w' ∧ Ext β w w') (hd : o.dst.isSome = true := by rfl) : OpC β k P ops o fr w c (postW S) :=
 .inl ⟨by simp [Region.wanted, hg], .inr ⟨f, args, w, h, hd, hk.mono fun _ w' ⟨a, x⟩ => ⟨newC c w 0, StepC.ext x fun _ hb => newC_old hb, _, fun b hb => by
  rcases hb with hb | hb
  ·exact ⟨Nat.lt_of_lt_of_le (hG b hb).1 x.size, (newC_old (hG b hb).1).trans (hG b hb).2⟩
  ·exact ⟨hb.2, newC_new hb.1⟩, a⟩⟩⟩
theorem Rd.keepS {α : Type} (enc : α → List Value) (k : Nat) (p : List α → Prop) : KeepS fun F v w => ∃ l, Rd enc k F w v l ∧ p l := fun F v γ D w w' x hd ⟨l, h1, h2⟩ => ⟨l, h1.keep x hd, h2⟩
def postAny : PostC := fun _ _ _ => True
theorem postAny_stable {k : Nat} : StableC k postAny := fun _ _ _ _ _ _ _ _ _ => trivial
def LkP (L : List Pr) (x : Pr) (M : List Pr) : Prop := x ∈ L ∧ M = L ∨ x ∉ L ∧ InsP L x M
def LkRes (L : List Pr) (x : Pr) (F : Nat → Prop) (v : Value) (w : World) : Prop := ∃ u M e, v = .tuple #[u, .int .i64 e] ∧ Rd encPr 2 F w u M ∧ LkP L x M
theorem LkRes.keepS (L : List Pr) (x : Pr) : KeepS (LkRes L x) := fun F v γ D w w' x hd ⟨u, M, e, h1, h2, h3⟩ => ⟨u, M, e, h1, h2.keep x hd, h3⟩
theorem LkP.ok {L M : List Pr} {x : Pr} {ρ : Fin 64 → Nat} (h : LkOk L ρ) (hp : LkP L x M) (hr : ρ x.1 < ρ x.2) (hq : 1 ≤ x.1.val ∧ 1 ≤ x.2.val) : LkOk M ρ ∧ M.length ≤ L.length + 1 := by
 rcases hp with ⟨_, rfl⟩ | ⟨hn, hi⟩
 ·exact ⟨h, by omega⟩
 ·exact ⟨h.ins hi hn hr hq, by rw [hi.len]; omega⟩
theorem prB (z : Pr) (x y : Fin 64) : (iv z.1 == iv x && iv z.2 == iv y) = (z == (x, y)) := by
 rw [iv_beq, iv_beq]; rfl
section
variable {P : Program} {fr : Fr} {w : World} {d : Option Nat} {t : TypeId} {ps : String} {af : Array Edge} {g : Option (Nat × Bool)}
theorem o_convU {T U : TypeId} {x : Operand} {a : W64} {n : Nat} (hP : P.underlying T = some (.int .u64)) (hP' : P.underlying U = some (.int .i64)) (hx : ev fr x = u64 a) (hn : a.toNat = n) (hl : n < 9223372036854775808) : xop P fr w ⟨d, .convert T U x, t, ps, af, g⟩ = .ok (.value (.int .i64 (n : Int))) w := by
 have h := o_conv (w := w) (d := d) (t := t) (ps := ps) (af := af) (g := g) (k' := .i64) hP hP' hx
 have e : IntKind.i64.wrap (a.toNat : Int) = (n : Int) := by rw [hn]; exact wrap_in (by unfold I64; omega)
 rw [e] at h
 exact h
end
section
variable {α : Type} {enc : α → List Value} {k : Nat} {F : Nat → Prop} {P : Program} {fr : Fr} {w : World} {d : Option Nat} {t : TypeId} {ps : String} {af : Array Edge} {g : Option (Nat × Bool)} {a : Option Addr} {c i m : Nat} {l : List α} {y : α} {T : TypeId} {x z : Operand}
theorem o_faE {fs : Array Field} {f n : Nat} {G : Field} (hP : P.underlying T = some (.struct fs)) (hf : fs[f]? = some G) (hs : ∀ w, (sizeOf G.type).run P w = .ok (n + 1) w) (hr : Sl enc k F w a c l) (hx : ev fr x = .pointer (elp a m)) (hi : l[i]? = some y) :
  xop P fr w ⟨d, .fieldAddr T x f, t, ps, af, g⟩ = .ok (.value (.pointer (elp a (m + G.offset)))) w := by
 obtain ⟨b, off, rfl, _, _, _⟩ := hr.el i _ hi
 rw [elp_some] at hx ⊢
 rw [← Nat.add_assoc]
 exact QB hP hf hs hx
theorem o_iaE {e : TypeId} {n j s : Nat} {K : IntKind} (hP : P.underlying T = some (.array n e)) (hs : ∀ w, (sizeOf e).run P w = .ok s w) (hr : Sl enc k F w a c l) (hx : ev fr x = .pointer (elp a m)) (hi : l[i]? = some y) (hy : ev fr z = .int K (j : Int)) (hj : j < n) :
  xop P fr w ⟨d, .indexAddr T x z, t, ps, af, g⟩ = .ok (.value (.pointer (elp a (m + j * s)))) w := by
 obtain ⟨b, off, rfl, _, _, _⟩ := hr.el i _ hi
 rw [elp_some] at hx ⊢
 rw [← Nat.add_assoc]
 exact o_iaA hP hs hx hy hj
theorem o_ldE {j : Nat} {v : Value} (ha : ∀ w, (isAgg T).run P w = .ok false w) (hr : Sl enc k F w a c l) (hx : ev fr x = .pointer (elp a (i * k + j))) (hi : l[i]? = some y) (hv : (enc y)[j]? = some v) :
  xop P fr w ⟨d, .load T x, t, ps, af, g⟩ = .ok (.value v) w := by
 obtain ⟨b, off, rfl, _, h3, _⟩ := hr.el i _ hi
 rw [elp_some] at hx
 have h := h3 j v hv
 rw [Nat.add_assoc] at h
 exact Qo ha hx h
end
theorem o_slfrom2 {P : Program} {fr : Fr} {w : World} {d : Option Nat} {t e T : TypeId} {ps : String} {af : Array Edge} {g : Option (Nat × Bool)} {x y : Operand} {a : Option Addr} {m c s j : Nat} (hP : P.underlying T = some (.slice e)) (hs : ∀ w, (sizeOf e).run P w = .ok s w) (hx : ev fr x = .slice a m c) (hj : ev fr y = .int .i64 (j : Int)) (hl : j ≤ m) (hc : m ≤ c) :
  xop P fr w ⟨d, .slice T x (some y) none none, t, ps, af, g⟩ = .ok (.value (.slice (if c = j then a else elp a (j * s)) (m - j) (c - j))) w := by
 rcases Nat.lt_or_ge j c with h | h
 ·rw [if_neg (by omega)]; exact o_sfromO hP hs hx hj hl h
 ·obtain rfl : c = j := by omega
  obtain rfl : m = c := by omega
  rw [if_pos rfl]
  simp [xop, execOp, hx, hj, Instr.slice, Instr.sliceAt, Instr.sliceBounds, Instr.sliceBound, asIntOf, run_underlying hP, hs, elp]
theorem o_convV {P : Program} {fr : Fr} {w : World} {d : Option Nat} {t : TypeId} {ps : String} {af : Array Edge} {g : Option (Nat × Bool)} {T U : TypeId} {x : Operand} {n : Nat} (hP : P.underlying T = some (.int .i64)) (hP' : P.underlying U = some (.int .u64)) (hx : ev fr x = .int .i64 (n : Int)) (hl : n < 18446744073709551616) : xop P fr w ⟨d, .convert T U x, t, ps, af, g⟩ = .ok (.value (u64 (BitVec.ofNat 64 n))) w := by
 have h := o_conv (w := w) (d := d) (t := t) (ps := ps) (af := af) (g := g) (k' := .u64) hP hP' hx
 rw [wrapU'] at h
 exact h
def SvIs (e : W64) (F : Nat → Prop) (v : Value) (w : World) : Prop := ∃ a c, v = .agg (encSV ⟨a, c, e⟩).toArray ∧ Sl encU 1 F w a c (wl e)
theorem SvIs.keepS (e : W64) : KeepS (SvIs e) := fun F v γ D w w' x hd ⟨a, c, h1, h2⟩ => ⟨a, c, h1, h2.keep x hd⟩
theorem o_convB8 {P : Program} {fr : Fr} {w : World} {d : Option Nat} {t : TypeId} {ps : String} {af : Array Edge} {g : Option (Nat × Bool)} {T U : TypeId} {x : Operand} {b : UInt8} (hP : P.underlying T = some (.int .u8)) (hP' : P.underlying U = some (.int .u64)) (hx : ev fr x = .int .u8 (b.toNat : Int)) : xop P fr w ⟨d, .convert T U x, t, ps, af, g⟩ = .ok (.value (u64 (BitVec.ofNat 64 b.toNat))) w := by
 have h := o_conv (w := w) (d := d) (t := t) (ps := ps) (af := af) (g := g) (k' := .u64) hP hP' hx
 rw [wrapU'] at h
 exact h
def postBoxK (w0 : World) (T : TypeId) (cs : List Value) (kc : Nat) : PostC := fun v w c => ∃ b, v = .pointer (some ⟨b, 0, none⟩) ∧ w0.heap.size ≤ b ∧ Box w b T cs ∧ c b = kc
theorem postBoxK_stable {w0 : World} {T : TypeId} {cs : List Value} {kc : Nat} : StableC kc (postBoxK w0 T cs kc) := by
 rintro v w c w' c' q hq hx ⟨b, h1, h2, h3, h4⟩
 exact ⟨b, h1, h2, h3.keep hx.bel fun hd => hq.elim hd.1 (fun h => h (by rw [← hd.2]; exact h4)), (hx.col b h3.lt).trans h4⟩
theorem OpC_boxK {β : Prop} {P : Program} {fr : Fr} {w w0 : World} {c : Nat → Nat} {ops : Array Oper} {kc : Nat} {T : TypeId} {z : Value} {o : Oper} (hw : w0.heap.size ≤ w.heap.size) (hg : o.guard = none) (h : xop P fr w o = .ok (.value (.pointer (some ⟨w.heap.size, 0, none⟩))) (w.alloc (.cells z.cells T))) (hd : o.dst.isSome = true := by rfl) : OpC β kc P ops o fr w c (postBoxK w0 T z.cells.toList kc) :=
 .inl ⟨by simp [Region.wanted, hg], .inl ⟨_, _, newC c w kc, .inl ⟨h, hd⟩, StepC.ext (Ext.alloc _ _) fun _ hb => newC_old hb, w.heap.size, rfl, hw, Box.alloc w z.cells T, newC_new (Nat.le_refl _)⟩⟩
theorem OpC_storeLk {β : Prop} {P : Program} {fr : Fr} {w w0 : World} {c : Nat → Nat} {ops : Array Oper} {ty : TypeId} {pos : String} {after : Array Edge} {kc s b m : Nat} {U T : TypeId} {y : Operand} {cs : List Value} {v : Value} (h0 : kc ≠ 0) (hs : ∀ w, (sizeOf U).run P w = .ok m w) (hx : ev fr (.tmp s) = .pointer (some ⟨b, 0, none⟩)) (hy : ev fr y = v) (hn : w0.heap.size ≤ b) (hb : Box w b T cs) (hc : c b = kc) (hv : v.cells.toList.length = m) (h1 : oneL v.cells.toList = true) (hle : v.cells.toList.length = cs.length) :
  OpC β kc P ops ⟨none, .store U (.tmp s) y, ty, pos, after, none⟩ fr w c (postBoxK w0 T v.cells.toList kc) := by
 have h := OpC_storeW (β := β) (ops := ops) (ty := ty) (pos := pos) (after := after) (x := .tmp s) h0 hs hx hy hb hc hv h1 hle
 have hl : lkV ⟨none, .store U (.tmp s) y, ty, pos, after, none⟩ fr = .pointer (some ⟨b, 0, none⟩) := hx
 rcases h with ⟨hw, ⟨u, w', c', hr, hx2, hS⟩ | ⟨f, args, w1, hr, hd, _⟩⟩ | ⟨hw, _⟩
 ·refine .inl ⟨hw, .inl ⟨lkV ⟨none, .store U (.tmp s) y, ty, pos, after, none⟩ fr, w', c', ?_, hx2, ?_⟩⟩
  ·rcases hr with ⟨_, hd⟩ | ⟨hr, _⟩
   ·cases hd
   ·exact .inr ⟨hr, rfl⟩
  ·rw [hl]
   exact ⟨b, rfl, hn, hS.1, hS.2⟩
 ·cases hd
 ·cases hw
end Go.Lx
/- The bytes of numbers and sets, as the wire has them: plain law. Nothing of a program stands here. -/
namespace Go.Lx
open Go
def b7 (x : W64) : UInt8 := UInt8.ofNat (x &&& 127#64).toNat
theorem shr7_lt {x : W64} (h : x ≠ 0) : (x >>> 7).toNat < x.toNat := by
 have : x.toNat ≠ 0 := fun e => h (BitVec.eq_of_toNat_eq e)
 rw [BitVec.toNat_ushiftRight, Nat.shiftRight_eq_div_pow]; omega
def gT (x : W64) : List UInt8 := if h : x = 0 then [] else (b7 x ||| 128) :: gT (x >>> 7)
termination_by x.toNat
decreasing_by exact shr7_lt h
theorem gT_zero : gT 0 = [] := by rw [gT]; simp
theorem gT_some {x : W64} (h : x ≠ 0) : gT x = (b7 x ||| 128) :: gT (x >>> 7) := by rw [gT, dif_neg h]
def putU (x : W64) : List UInt8 := (b7 x :: gT (x >>> 7)).reverse
theorem b7_nat (x : W64) : (b7 x).toNat = x.toNat % 128 := by
 have h : (x &&& 127#64).toNat = x.toNat % 128 := by
  rw [BitVec.toNat_and]
  show x.toNat &&& 127 = _
  exact Nat.and_two_pow_sub_one_eq_mod x.toNat 7
 rw [b7, h, UInt8.toNat_ofNat']
 omega
theorem b8_nat (c : UInt8) (h : c.toNat < 128) : (c ||| 128).toNat = c.toNat + 128 := by
 rw [UInt8.toNat_or]
 show c.toNat ||| 128 = _
 have h1 := Nat.two_pow_add_eq_or_of_lt (i := 7) (b := c.toNat) h 1
 rw [Nat.or_comm]
 simp only [Nat.mul_one] at h1
 show 2 ^ 7 ||| c.toNat = _
 rw [← h1]; omega
theorem putU_eq (x : W64) : putU x = (gT (x >>> 7)).reverse ++ [b7 x] := by rw [putU, List.reverse_cons]
theorem gT_len (x : W64) (k : Nat) (h : x.toNat < 2 ^ (7 * k)) : (gT x).length ≤ k := by
 induction k generalizing x with
 | zero =>
  have : x = 0 := BitVec.eq_of_toNat_eq (by simpa using h)
  rw [this, gT_zero]; simp
 | succ k ih =>
  by_cases hx : x = 0
  ·rw [hx, gT_zero]; simp
  ·rw [gT_some hx, List.length_cons]
   have := ih (x >>> 7) (by rw [BitVec.toNat_ushiftRight, Nat.shiftRight_eq_div_pow]; rw [Nat.mul_add, Nat.pow_add] at h; omega)
   omega
theorem putU_len (x : W64) : (putU x).length ≤ 11 := by
 have h := gT_len (x >>> 7) 10 (by have := (x >>> 7).isLt; omega)
 rw [putU_eq, List.length_append, List.length_reverse]; simp; omega
def putB (l : List UInt8) : List UInt8 := putU (BitVec.ofNat 64 l.length) ++ l
def byteW (x : W64) (k : Nat) : UInt8 := UInt8.ofNat (x >>> (8 * k)).toNat
structure RevI (l m : List UInt8) (i : Nat) : Prop where
 len : m.length = l.length
 le : 2 * i ≤ l.length + 1
 get : ∀ k, m[k]? = if k < i ∨ (l.length ≤ k + i ∧ k < l.length) then l[l.length - 1 - k]? else l[k]?
theorem RevI.start (l : List UInt8) : RevI l l 0 := ⟨rfl, by omega, fun k => by
 rw [if_neg (by omega)]⟩
theorem RevI.fin {l m : List UInt8} {i : Nat} (h : RevI l m i) (hi : l.length ≤ 2 * i + 1) : m = l.reverse := by
 refine List.ext_getElem? fun k => ?_
 rw [h.get k]
 by_cases hk : k < l.length
 ·rw [List.getElem?_reverse hk]
  split
  ·rfl
  ·have : k = l.length - 1 - k := by omega
   rw [← this]
 ·have h1 : l.reverse[k]? = none := by simp; omega
  rw [h1]
  split
  ·rename_i h2
   have := h.le
   have : l.length - 1 - k = 0 := by omega
   rcases Nat.eq_zero_or_pos l.length with h0 | h0
   ·simp [List.length_eq_zero_iff.1 h0]
   ·omega
  ·simp; omega
theorem RevI.step {l m : List UInt8} {i j : Nat} (h : RevI l m i) (hj : l.length = i + j + 1) (hij : i < j) : RevI l ((m.set i (m.getD j 0)).set j (m.getD i 0)) (i + 1) := by
 have hm := h.len
 refine ⟨by simp [hm], by omega, fun k => ?_⟩
 have h1 : m.getD j 0 = l.getD j 0 := by simp only [List.getD]; rw [h.get j, if_neg (by omega)]
 have h2 : m.getD i 0 = l.getD i 0 := by simp only [List.getD]; rw [h.get i, if_neg (by omega)]
 have gi : l[i]? = some (l.getD i 0) := by simp [List.getD, show i < l.length by omega]
 have gj : l[j]? = some (l.getD j 0) := by simp [List.getD, show j < l.length by omega]
 rw [h1, h2, List.getElem?_set, List.getElem?_set]
 by_cases e1 : j = k
 ·subst e1
  rw [if_pos rfl, if_pos (by simp; omega), if_pos (by omega), show l.length - 1 - j = i by omega, gi]
 ·rw [if_neg e1]
  by_cases e2 : i = k
  ·subst e2
   rw [if_pos rfl, if_pos (by omega), if_pos (by omega), show l.length - 1 - i = j by omega, gj]
  ·rw [if_neg e2, h.get k]
   by_cases c : k < i ∨ (l.length ≤ k + i ∧ k < l.length)
   ·rw [if_pos c, if_pos (by omega)]
   ·rw [if_neg c]
    by_cases c2 : k < i + 1 ∨ (l.length ≤ k + (i + 1) ∧ k < l.length)
    ·omega
    ·rw [if_neg c2]
structure BytI (x : W64) (n k : Nat) (m : List UInt8) : Prop where
 len : m.length = n
 get : ∀ j, j < k → m[j]? = some (byteW x j)
theorem BytI.start (x : W64) (n : Nat) : BytI x n 0 (List.replicate n 0) := ⟨by simp, fun j h => absurd h (Nat.not_lt_zero _)⟩
theorem BytI.step {x : W64} {n k : Nat} {m : List UInt8} (h : BytI x n k m) (hk : k < n) : BytI x n (k + 1) (m.set k (byteW x k)) := by
 have hl := h.len
 refine ⟨by simp [hl], fun j hj => ?_⟩
 rw [List.getElem?_set]
 by_cases e : k = j
 ·subst e; rw [if_pos rfl, if_pos (by omega)]
 ·rw [if_neg e]; exact h.get j (by omega)
theorem BytI.fin {x : W64} {n k : Nat} {m : List UInt8} (h : BytI x n k m) (hk : n ≤ k) : m = (List.range n).map (byteW x) := by
 refine List.ext_getElem? fun j => ?_
 by_cases hj : j < n
 ·rw [h.get j (by omega), List.getElem?_map, List.getElem?_range hj]; rfl
 ·rw [List.getElem?_eq_none (by rw [h.len]; omega), List.getElem?_eq_none (by simp; omega)]
def iW (i : Int) : W64 := BitVec.ofNat 64 i.toNat
def putF (b : Bool) : UInt8 := if b then 1 else 0
end Go.Lx
/- A writer of bytes in memory; the rules of its operations. Nothing of a program stands here. -/
namespace Go.Lx
open Go Go.RowKit
def Wr (T e : TypeId) (D : Nat → Prop) (w : World) (v : Value) (l : List UInt8) : Prop := ∃ b u, v = .pointer (some ⟨b, 0, none⟩) ∧ D b ∧ Box w b T [u] ∧ Own encB 1 e (fun g => D g ∧ g ≠ b) w u l
section
variable {T e : TypeId} {D D' : Nat → Prop} {γ : Prop} {w w' : World} {v : Value} {l : List UInt8}
theorem Wr.keepD (h : Wr T e D w v l) (x : Bel γ D' w w') (hd : ∀ g, g < w.heap.size → D g → ¬ D' g) : Wr T e D w' v l :=
 let ⟨b, u, h1, h2, h3, h4⟩ := h
 ⟨b, u, h1, h2, h3.keep x (hd b h3.lt h2), h4.keepD x fun g hg hD => hd g hg hD.1⟩
theorem Wr.ext (h : Wr T e D w v l) (x : Ext γ w w') : Wr T e D w' v l := h.keepD x fun _ _ _ => id
theorem Wr.mono (h : Wr T e D w v l) (hd : ∀ g, g < w.heap.size → D g → D' g) : Wr T e D' w v l :=
 let ⟨b, u, h1, h2, h3, h4⟩ := h
 ⟨b, u, h1, hd b h3.lt h2, h3, h4.mono fun g hg hD => ⟨hd g hg hD.1, hD.2⟩⟩
end
section
variable {P : Program} {fr : Fr} {w : World} {d : Option Nat} {t : TypeId} {ps : String} {af : Array Edge} {g : Option (Nat × Bool)} {x y z : Operand} {T U : TypeId}
theorem wrapU8 (n : Nat) : IntKind.u8.wrap (n : Int) = ((UInt8.ofNat n).toNat : Int) := by
 rw [UInt8.toNat_ofNat']
 simp [IntKind.wrap, IntKind.bits, IntKind.signed]
theorem o_convUB {a : W64} (hP : P.underlying T = some (.int .u64)) (hP' : P.underlying U = some (.int .u8)) (hx : ev fr x = u64 a) : xop P fr w ⟨d, .convert T U x, t, ps, af, g⟩ = .ok (.value (.int .u8 ((UInt8.ofNat a.toNat).toNat : Int))) w := by
 have h := o_conv (w := w) (d := d) (t := t) (ps := ps) (af := af) (g := g) (k' := .u8) hP hP' hx
 rw [wrapU8] at h
 exact h
theorem o_convI {i : Int} (hP : P.underlying T = some (.int .i64)) (hP' : P.underlying U = some (.int .u64)) (hx : ev fr x = .int .i64 i) (h0 : 0 ≤ i) (hl : i < 18446744073709551616) : xop P fr w ⟨d, .convert T U x, t, ps, af, g⟩ = .ok (.value (u64 (BitVec.ofNat 64 i.toNat))) w := by
 obtain ⟨n, rfl⟩ := Int.eq_ofNat_of_zero_le h0
 exact o_convV hP hP' hx (by omega)
theorem o_quoN {V : TypeId} {a b : Nat} (hx : ev fr x = .int .i64 (a : Int)) (hy : ev fr y = .int .i64 (b : Int)) (hb : 0 < b) (hr : a ≤ 9223372036854775807) : xop P fr w ⟨d, .binOp .quo T x y V, t, ps, af, g⟩ = .ok (.value (.int .i64 ((a / b : Nat) : Int))) w :=
 o_quoT (a := (a : Int)) hx hy (by omega) hb (by unfold I64; omega)
theorem o_mulN {V : TypeId} {a b : Nat} (hx : ev fr x = .int .i64 (a : Int)) (hy : ev fr y = .int .i64 (b : Int)) (hr : a * b ≤ 9223372036854775807) : xop P fr w ⟨d, .binOp .mul T x y V, t, ps, af, g⟩ = .ok (.value (.int .i64 ((a * b : Nat) : Int))) w := by
 have h := o_mul (P := P) (w := w) (d := d) (t := t) (ps := ps) (af := af) (g := g) (T := T) (U := V) hx hy (by unfold I64; rw [← Int.natCast_mul]; omega)
 rwa [← Int.natCast_mul] at h
def a31 (a : Int) : Int := ((BitVec.ofInt 64 a &&& 31#64).toNat : Int)
theorem o_bandB {a b : UInt8} (hx : ev fr x = .int .u8 (a.toNat : Int)) (hy : ev fr y = .int .u8 (b.toNat : Int)) : xop P fr w ⟨d, .binOp .and T x y U, t, ps, af, g⟩ = .ok (.value (.int .u8 ((a &&& b).toNat : Int))) w := by
 have e1 : (BitVec.ofInt 8 (a.toNat : Int)) = a.toBitVec := by
  rw [BitVec.ofInt_natCast]; apply BitVec.eq_of_toNat_eq; rw [BitVec.toNat_ofNat]; exact Nat.mod_eq_of_lt a.toNat_lt
 have e2 : (BitVec.ofInt 8 (b.toNat : Int)) = b.toBitVec := by
  rw [BitVec.ofInt_natCast]; apply BitVec.eq_of_toNat_eq; rw [BitVec.toNat_ofNat]; exact Nat.mod_eq_of_lt b.toNat_lt
 have e : IntKind.u8.wrap ((BitVec.ofInt IntKind.u8.bits (a.toNat : Int) &&& BitVec.ofInt IntKind.u8.bits (b.toNat : Int)).toNat : Int) = ((a &&& b).toNat : Int) := by
  show IntKind.u8.wrap ((BitVec.ofInt 8 (a.toNat : Int) &&& BitVec.ofInt 8 (b.toNat : Int)).toNat : Int) = _
  rw [e1, e2, ← UInt8.toBitVec_and]
  show IntKind.u8.wrap (((a &&& b).toNat : Nat) : Int) = _
  rw [wrapU8, UInt8.ofNat_toNat]
 simp only [xop, execOp, hx, hy, eqGuard, binOp, Op.intBits]
 simp only [e]; simp
theorem o_borB {a b : UInt8} (hx : ev fr x = .int .u8 (a.toNat : Int)) (hy : ev fr y = .int .u8 (b.toNat : Int)) : xop P fr w ⟨d, .binOp .or T x y U, t, ps, af, g⟩ = .ok (.value (.int .u8 ((a ||| b).toNat : Int))) w := by
 have e1 : (BitVec.ofInt 8 (a.toNat : Int)) = a.toBitVec := by
  rw [BitVec.ofInt_natCast]; apply BitVec.eq_of_toNat_eq; rw [BitVec.toNat_ofNat]; exact Nat.mod_eq_of_lt a.toNat_lt
 have e2 : (BitVec.ofInt 8 (b.toNat : Int)) = b.toBitVec := by
  rw [BitVec.ofInt_natCast]; apply BitVec.eq_of_toNat_eq; rw [BitVec.toNat_ofNat]; exact Nat.mod_eq_of_lt b.toNat_lt
 have e : IntKind.u8.wrap ((BitVec.ofInt IntKind.u8.bits (a.toNat : Int) ||| BitVec.ofInt IntKind.u8.bits (b.toNat : Int)).toNat : Int) = ((a ||| b).toNat : Int) := by
  show IntKind.u8.wrap ((BitVec.ofInt 8 (a.toNat : Int) ||| BitVec.ofInt 8 (b.toNat : Int)).toNat : Int) = _
  rw [e1, e2, ← UInt8.toBitVec_or]
  show IntKind.u8.wrap (((a ||| b).toNat : Nat) : Int) = _
  rw [wrapU8, UInt8.ofNat_toNat]
 simp only [xop, execOp, hx, hy, eqGuard, binOp, Op.intBits]
 simp only [e]; simp
end
def postOwnAt {α : Type} (enc : α → List Value) (k : Nat) (e : TypeId) (kc : Nat) (u : Value) (l : List α) : PostC := fun _ w c => Own enc k e (fun b => c b = kc) w u l
theorem postOwnAt_stable {α : Type} {enc : α → List Value} {k kc : Nat} {e : TypeId} {u : Value} {l : List α} : StableC kc (postOwnAt enc k e kc u l) := fun v w c w' c' q hq hx hp => QZ u w c w' c' q hq hx hp
theorem OpC_elst {α : Type} {enc : α → List Value} {k : Nat} {e U : TypeId} {β : Prop} {P : Program} {fr : Fr} {w : World} {c : Nat → Nat} {ops : Array Oper} {ty : TypeId} {pos : String} {after : Array Edge} {kc : Nat} {x y : Operand} {v : Value} {l : List α} {a : Option Addr} {cp i m : Nat} {u : α} (h0 : kc ≠ 0)
  (he : EncOk enc k) (hs : ∀ w, (sizeOf U).run P w = .ok k w) (hx : ev fr x = .pointer (elp a (i * k))) (hy : ev fr y = v) (hv : v.cells.toList = enc u) (ho : Own enc k e (fun g => c g = kc) w (.slice a m cp) l) (hi : i < l.length) :
  OpC β kc P ops ⟨none, .store U x y, ty, pos, after, none⟩ fr w c (postOwnAt enc k e kc (.slice a m cp) (l.set i u)) := by
 rcases ho.row.2 with ⟨h1, h2⟩ | ⟨g, cap, cur, h1, h2, h3, h4, h5, h6, h7⟩
 ·omega
 ·have hsl : a = some ⟨g, 0, none⟩ ∧ m = l.length ∧ cp = cap := by simp at h1; exact h1
  obtain ⟨rfl, rfl, rfl⟩ := hsl
  rw [elp_some, Nat.zero_add] at hx
  have hlk : l.length * k ≤ cur.size := by rw [h6]; exact Nat.mul_le_mul_right _ h4
  have hik : i * k + k ≤ l.length * k := by rw [← Nat.succ_mul]; exact Nat.mul_le_mul_right _ hi
  have hvl : v.cells.toList.length = k := by rw [hv, he.len]
  have hst := run_storeCells_at (P := P) g (i * k) e v.cells.toList 0 cur w h3 (by rw [hvl]; omega) (by rw [hv]; exact he.one u)
  simp only [Nat.add_zero, hvl] at hst
  have hsz : v.cells.size = k := by rw [← Array.length_toList]; exact hvl
  have hcg : c g = kc := ho.loc g rfl
  refine .inl ⟨rfl, .inl ⟨lkV _ fr, w.setRow g (cur.toList.take (i * k) ++ v.cells.toList ++ cur.toList.drop (i * k + k)).toArray, c, .inr ⟨?_, rfl⟩, ⟨⟨rfl, rfl, rfl, by simp, fun j _ hj => setRow_other w g j _ (fun e => hj ⟨h0, by subst e; exact hcg⟩), fun _ => Nat.le_refl _⟩, fun _ _ => rfl⟩, ?_⟩⟩
  ·simp [execOp, hx, hy, Instr.storeAt, Instr.sureAddr, storeVar, hs, hsz, hst]
  ·have hcl : (cur.toList.take (i * k) ++ v.cells.toList ++ cur.toList.drop (i * k + k)).length = cur.size := by
    simp only [List.length_append, hvl, List.length_take, List.length_drop, Array.length_toList]; omega
   refine ⟨⟨by rw [fm_len he], .inr ⟨g, cp, _, by simp, h2, setRow_heap w g cur _ e _ h3, by simpa using h4, h5, by rw [List.size_toArray, hcl, h6], ?_⟩⟩, ho.loc⟩
   rw [List.length_set, List.toList_toArray, set_flat he hi, ← hv]
   have t1 : cur.toList.take (i * k) = (l.flatMap enc).take (i * k) := by rw [← h7, List.take_take]; congr 1; omega
   have t2 : (l.flatMap enc).drop (i * k + k) = (cur.toList.drop (i * k + k)).take (l.length * k - (i * k + k)) := by rw [← h7, List.drop_take]
   rw [t1, t2]
   have hA : ((l.flatMap enc).take (i * k) ++ v.cells.toList).length = i * k + k := by
    rw [List.length_append, hvl, List.length_take, fm_len he]; omega
   rw [List.take_append, hA, List.take_of_length_le (by rw [hA]; exact hik)]
section
variable {rd : Option Nat} {P : Program} {n : Nat} {K : Fr → World → Prop} {fr : Fr} {w : World} {l : List UInt8} {T U e : TypeId} {x : Operand} {a : Option Addr} {c : Nat} {F : Nat → Prop}
theorem o_bs {d : Option Nat} {t : TypeId} {ps : String} {af : Array Edge} {g : Option (Nat × Bool)} (hP : P.underlying T = some (.slice e)) (he : P.underlying e = some (.int .u8)) (hU : P.underlying U = some .string) (hx : ev fr x = .slice a l.length c) (hs : Sl encB 1 F w a c l) :
  xop P fr w ⟨d, .convert T U x, t, ps, af, g⟩ = .ok (.value (str l)) w := by
 have key : (convert T U (.slice a l.length c)).run P w = .ok (str l) w := by
  cases a with
  | none =>
   have h0 : c = 0 := hs.nil rfl
   have h1 := hs.le
   have h2 : l = [] := List.eq_nil_of_length_eq_zero (by omega)
   subst h2
   rw [run_convert_bytes_string w T U e none _ c hP he hU]
   simp [Conv.bytesToString, str]
   rfl
  | some ad =>
   refine run_convert_bytes_back w T U e ad c l hP he hU fun j hj => ?_
   have hne : l ≠ [] := by rintro rfl; simp at hj
   obtain ⟨b, off, h1, h2, h3⟩ := hs.cells QL hne
   simp only [Option.some.injEq] at h1
   subst h1
   have hfm : (l.flatMap encB)[j]? = some (.int .u8 (l[j].toNat : Int)) := by
    have h4 := fm_get (i := j) (x := l[j]) QL (List.getElem?_eq_getElem hj) 0 (by decide)
    simpa [encB] using h4
   have := h3 j _ hfm
   unfold Addr.add
   by_cases h : j = 0
   ·subst h; simpa using this
   ·rw [if_neg h]; exact this
 simp only [xop, execOp, hx, key, eqGuard]
 simp [key]
theorem Rg_sb {ops : Array Oper} {rest : List Oper} {d : Option Nat} {ty : TypeId} {pos : String} {af : Array Edge} (hd : dstOk n d = true) (hP : P.underlying T = some .string) (hU : P.underlying U = some (.slice e)) (he : P.underlying e = some (.int .u8)) (hx : ev fr x = str l) (hl : l.length ≤ 100000000)
  (hk : ∀ a' c' w', Ext False w w' → Sl encB 1 (fun g => w.heap.size ≤ g) w' a' c' l → Rg rd P n ops rest K (fr.put d (.slice a' l.length c')) w') :
  Rg rd P n ops (⟨d, .convert T U x, ty, pos, af, none⟩ :: rest) K fr w := by
 have hrun := run_bytes_of_string (P := P) w T U e ⟨l.toArray⟩ hP hU he
 have hsz : (⟨l.toArray⟩ : ByteArray).size = l.length := by simp [ByteArray.size]
 rw [hsz] at hrun
 refine Rg_run hd (v := .slice (some ⟨w.heap.size, 0, none⟩) l.length (grownCap w l.length 0 e)) (w' := w.drew.alloc (.cells (bytesRow ⟨l.toArray⟩ (grownCap w l.length 0 e)) e ((bytesRow ⟨l.toArray⟩ (grownCap w l.length 0 e)).size, (bytesRow ⟨l.toArray⟩ (grownCap w l.length 0 e)).size + 1))) ?_ (hk _ _ _ ((Ext.drew w).ex (Ext.alloc _ _)) ?_)
 ·simp only [execOp, hx, str]
  simp [hrun]
 ·refine ⟨grownCap_ge _ _ _ _, grownCap_le_maxLen _ _ _ _ (by unfold maxLen; omega), (fun h => by cases h), fun i v hi => ?_⟩
  have hil := (List.getElem?_eq_some_iff.1 hi).1
  refine ⟨w.heap.size, 0, rfl, ⟨Nat.le_refl _, by show w.heap.size < (w.heap.push _).size; rw [Array.size_push]; exact Nat.lt_succ_self _⟩, ?_, rfl⟩
  intro j u hj
  have hj0 : j = 0 := by
   have := (List.getElem?_eq_some_iff.1 hj).1
   simp [encB] at this; omega
  subst hj0
  have hu : u = .int .u8 (v.toNat : Int) := by simp [encB] at hj; exact hj.symm
  have hc := World.cell?_alloc_mark w.drew (bytesRow ⟨l.toArray⟩ (grownCap w l.length 0 e)) e ((bytesRow ⟨l.toArray⟩ (grownCap w l.length 0 e)).size, (bytesRow ⟨l.toArray⟩ (grownCap w l.length 0 e)).size + 1) i
  have hb := bytesRow_at ⟨l.toArray⟩ (grownCap w l.length 0 e) i (by simpa using hil)
  rw [hb] at hc
  rw [hu]
  have e1 : l[i] = v := by simpa using (List.getElem?_eq_some_iff.1 hi).2
  simp only [Nat.mul_one, Nat.zero_add, Nat.add_zero]
  simpa [e1] using hc
end
def OwA {α : Type} (enc : α → List Value) (k : Nat) (e : TypeId) (w : World) (g : Nat) (v : Value) (l : List α) : Prop := Own enc k e (fun b => b = g) w v l ∧ v.ownBlock = some g ∧ g < w.heap.size
section
variable {α : Type} {enc : α → List Value} {k kc : Nat} {e : TypeId} {D : Nat → Prop} {w w' : World} {g : Nat} {v : Value} {l : List α} {c : Nat → Nat}
theorem OwA.lt (h : OwA enc k e w g v l) : g < w.heap.size := h.2.2
theorem OwA.col (h : OwA enc k e w g v l) (hc : c g = kc) : Own enc k e (fun b => c b = kc) w v l := h.1.mono fun b _ hb => by subst hb; exact hc
theorem OwA.blk (h : OwA enc k e w g v l) (hb : w'.heap[g]? = w.heap[g]?) : OwA enc k e w' g v l := by
 obtain ⟨⟨hr, hl⟩, ho, hlt⟩ := h
 have hlt' : g < w'.heap.size := by
  rw [Array.getElem?_eq_getElem hlt] at hb
  exact (Array.getElem?_eq_some_iff.1 hb).1
 refine ⟨⟨⟨hr.1, ?_⟩, hl⟩, ho, hlt'⟩
 rcases hr.2 with ⟨h1, h2⟩ | ⟨g', cap, cur, h1, h2, h3, h4⟩
 ·exact .inl ⟨h1, h2⟩
 ·have e1 : g' = g := by rw [h1] at ho; simpa [Value.ownBlock] using ho
  subst e1
  exact .inr ⟨g', cap, cur, h1, h2, hb.trans h3, h4⟩
theorem Own.blk0 (h : Own enc k e D w v l) (hne : l ≠ []) : ∃ g, v.ownBlock = some g ∧ D g ∧ OwA enc k e w g v l := by
 obtain ⟨g, c, rfl⟩ := h.sm hne
 have hg : (Value.slice (some ⟨g, 0, none⟩) l.length c).ownBlock = some g := rfl
 exact ⟨g, hg, h.loc g hg, h.at (fun b _ hb => by rw [hg] at hb; cases hb; rfl), hg, h.lt g hg⟩
end
end Go.Lx
/- Books of grants: what the program and the reference make of them. Nothing of a program stands here. -/
namespace Go.Lx
open Go
structure Ent where
 r : Int
 p : Perm
 deriving DecidableEq
def encE (e : Ent) : List Value := .int .i64 e.r :: encP e.p
theorem encE_ok : EncOk encE 4 := ⟨by decide, fun _ => rfl, fun x u hu => by
 simp [encE, encP] at hu
 rcases hu with rfl | rfl | rfl | rfl <;> rfl⟩
def ez : Ent := ⟨0, pz⟩
def cmpI (a b : Int) : Int := if a < b then -1 else if b < a then 1 else 0
def cmpE (a b : Ent) : Int := if a.r != b.r then cmpI a.r b.r else cmpM a.p b.p
theorem cmpI_is : IsCmp cmpI := by
 refine ⟨fun a b => ?_, fun a b => ?_, fun a b c => ?_⟩ <;> unfold cmpI <;> (repeat' split) <;> omega
def Ve (e : Ent) : Prop := 1 ≤ e.r ∧ e.r ≤ 63 ∧ Vp e.p
abbrev VE := { e : Ent // Ve e }
def keyE (e : VE) : Int × VP := (e.1.r, ⟨e.1.p, e.2.2.2⟩)
theorem cmpE_lex (x y : VE) : cmpE x.1 y.1 = lex cmpI (fun a b : VP => cmpM a.1 b.1) (keyE x) (keyE y) := by
 show (if x.1.r != y.1.r then cmpI x.1.r y.1.r else cmpM x.1.p y.1.p) = if cmpI x.1.r y.1.r != 0 then cmpI x.1.r y.1.r else cmpM x.1.p y.1.p
 have e := cmpI_is.eq x.1.r y.1.r
 by_cases h : x.1.r = y.1.r
 ·rw [if_neg (by simpa using h), if_neg (by simpa using e.2 h)]
 ·rw [if_pos (by simpa using h), if_pos (by simpa using fun q => h (e.1 q))]
theorem cmpE_is : IsCmp fun a b : VE => cmpE a.1 b.1 := by
 have h := (lex_is cmpI_is cmpV_is).map keyE (fun a b h => by
  have h1 := congrArg Prod.fst h
  have h2 := congrArg Prod.snd h
  apply Subtype.ext
  obtain ⟨⟨r, p⟩, ha⟩ := a
  obtain ⟨⟨s, q⟩, hb⟩ := b
  simp only [keyE, Subtype.mk.injEq] at h1 h2
  show (⟨r, p⟩ : Ent) = ⟨s, q⟩
  rw [h1, h2])
 have e : (fun a b : VE => cmpE a.1 b.1) = fun a b => lex cmpI (fun a b : VP => cmpM a.1 b.1) (keyE a) (keyE b) := by
  funext a b; exact cmpE_lex a b
 rw [e]; exact h
theorem cmpE_eq {a b : Ent} (ha : Ve a) (hb : Ve b) : cmpE a b = 0 ↔ a = b := by
 rw [cmpE_is.eq ⟨a, ha⟩ ⟨b, hb⟩]; simp
theorem cmpE_anti {a b : Ent} (ha : Ve a) (hb : Ve b) : cmpE b a = - cmpE a b := cmpE_is.anti ⟨a, ha⟩ ⟨b, hb⟩
theorem cmpE_tr {a b c : Ent} (ha : Ve a) (hb : Ve b) (hc : Ve c) (h : cmpE a b < 0) (k : cmpE b c < 0) : cmpE a c < 0 := cmpE_is.tr ⟨a, ha⟩ ⟨b, hb⟩ ⟨c, hc⟩ h k
structure OkG (m : List Ent) : Prop where
 asc : m.Pairwise (fun x y => cmpE x y < 0)
 ve : ∀ e ∈ m, Ve e
 len : m.length ≤ 1000
theorem OkG.nil : OkG [] := ⟨List.Pairwise.nil, by simp, by simp⟩
theorem asc_get {m : List Ent} (h : m.Pairwise (fun x y => cmpE x y < 0)) {i j : Nat} (hij : i < j) (hj : j < m.length) : cmpE (m.getD i ez) (m.getD j ez) < 0 := by
 have := List.pairwise_iff_getElem.1 h i j (by omega) hj hij
 simpa [List.getD, show i < m.length by omega, hj] using this
structure BsG (m : List Ent) (x : Ent) (i j : Nat) : Prop where
 le : i ≤ j
 len : j ≤ m.length
 low : ∀ t, t < i → cmpE (m.getD t ez) x < 0
 up : ∀ t, j ≤ t → t < m.length → 0 ≤ cmpE (m.getD t ez) x
theorem BsG.start (m : List Ent) (x : Ent) : BsG m x 0 m.length := ⟨Nat.zero_le _, Nat.le_refl _, fun t h => by omega, fun t h h2 => by omega⟩
section
variable {m : List Ent} {x : Ent} {i j : Nat} (h : BsG m x i j) (hm : OkG m) (hx : Ve x)
include h hm hx
theorem BsG.lo {k : Nat} (h1 : i ≤ k) (h2 : k < j) (hk : cmpE (m.getD k ez) x < 0) : BsG m x (k + 1) j := by
 have hl := h.len
 refine ⟨by omega, h.len, fun t ht => ?_, h.up⟩
 rcases Nat.lt_or_ge t k with h3 | h3
 ·exact cmpE_tr (hm.ve _ (gm (by omega))) (hm.ve _ (gm (by omega))) hx (asc_get hm.asc h3 (by omega)) hk
 ·obtain rfl : t = k := by omega
  exact hk
theorem BsG.hi {k : Nat} (h1 : i ≤ k) (h2 : k < j) (hk : ¬ cmpE (m.getD k ez) x < 0) : BsG m x i k := by
 have hl := h.len
 refine ⟨h1, by omega, h.low, fun t ht hl2 => ?_⟩
 rcases Nat.lt_or_ge k t with h3 | h3
 ·rcases Int.lt_or_le (cmpE (m.getD t ez) x) 0 with h4 | h4
  ·exact absurd (cmpE_tr (hm.ve _ (gm (by omega))) (hm.ve _ (gm (by omega))) hx (asc_get hm.asc h3 (by omega)) h4) hk
  ·exact h4
 ·obtain rfl : t = k := by omega
  omega
end
theorem BsG.uniq {m : List Ent} {x : Ent} {i j : Nat} (h : BsG m x i i) (k : BsG m x j j) : i = j := by
 have h1 := h.len
 have h2 := k.len
 rcases Nat.lt_trichotomy i j with q | q | q
 ·have a := k.low i q
  have b := h.up i (Nat.le_refl _) (by omega)
  omega
 ·exact q
 ·have a := h.low j q
  have b := k.up j (Nat.le_refl _) (by omega)
  omega
theorem getD_ex {m : List Ent} {e : Ent} (h : e ∈ m) : ∃ t, t < m.length ∧ m.getD t ez = e := by
 obtain ⟨t, ht, rfl⟩ := List.getElem_of_mem h
 exact ⟨t, ht, by simp [List.getD, ht]⟩
theorem BsG.fin {m : List Ent} {x : Ent} {i : Nat} (h : BsG m x i i) (hm : OkG m) (hx : Ve x) : (decide ((i : Int) < (m.length : Int)) && (cmpE (m.getD i ez) x == 0)) = decide (x ∈ m) := by
 rw [Bool.eq_iff_iff, Bool.and_eq_true, decide_eq_true_iff, decide_eq_true_iff, beq_iff_eq]
 constructor
 ·rintro ⟨h1, h2⟩
  have h1' : i < m.length := by omega
  have := (cmpE_eq (hm.ve _ (gm (z := ez) h1')) hx).1 h2
  rw [← this]; exact gm h1'
 ·intro hin
  obtain ⟨t, ht, e⟩ := getD_ex hin
  have h0 : cmpE (m.getD t ez) x = 0 := by rw [e]; exact (cmpE_eq hx hx).2 rfl
  rcases Nat.lt_trichotomy t i with h2 | h2 | h2
  ·have := h.low t h2; omega
  ·subst h2; exact ⟨by omega, h0⟩
  ·have h3 := h.up i (Nat.le_refl _) (by omega)
   have h4 := asc_get hm.asc h2 ht
   rw [e] at h4
   omega
theorem insGo_at {f : Ent → Ent → Int} {p : Ent} : ∀ {m : List Ent} {i : Nat}, i ≤ m.length → (∀ t, t < i → ¬ f p (m.getD t ez) < 0) → (i < m.length → f p (m.getD i ez) < 0) → insGo f p m = m.take i ++ [p] ++ m.drop i
 | [], i, h, _, _ => by
  obtain rfl : i = 0 := by simpa using h
  rfl
 | x :: r, 0, _, _, h2 => by
  have := h2 (by simp)
  rw [insGo, if_pos (by simpa using this)]; rfl
 | x :: r, i + 1, h, h1, h2 => by
  have h0 := h1 0 (by omega)
  rw [insGo, if_neg (by simpa using h0)]
  rw [insGo_at (i := i) (by simpa using h) (fun t ht => by simpa using h1 (t + 1) (by omega)) (fun hl => by simpa using h2 (by simp; omega))]
  rfl
theorem BsG.ins {m : List Ent} {x : Ent} {i : Nat} (h : BsG m x i i) (hm : OkG m) (hx : Ve x) (hn : x ∉ m) : m.take i ++ [x] ++ m.drop i = insGo cmpE x m := by
 refine (insGo_at h.len (fun t ht => ?_) (fun hl => ?_)).symm
 ·have h1 := h.low t ht
  have hl := h.len
  have h2 := cmpE_anti (hm.ve _ (gm (z := ez) (show t < m.length by omega))) hx
  omega
 ·have h1 := h.up i (Nat.le_refl _) hl
  have h2 := cmpE_anti (hm.ve _ (gm (z := ez) hl)) hx
  have h3 : cmpE (m.getD i ez) x ≠ 0 := fun e => hn (by rw [← (cmpE_eq (hm.ve _ (gm (z := ez) hl)) hx).1 e]; exact gm hl)
  omega
theorem insGo_lenG {α : Type} {f : α → α → Int} {p : α} : ∀ (m : List α), (insGo f p m).length = m.length + 1
 | [] => rfl
 | x :: r => by
  rw [insGo]; split
  ·rfl
  ·simp [insGo_lenG r]
theorem insGo_pwE {x : Ent} {m : List Ent} (hm : OkG m) (hx : Ve x) (hn : x ∉ m) : (insGo cmpE x m).Pairwise (fun x y => cmpE x y < 0) := by
 have ha := hm.asc
 have hv := hm.ve
 clear hm
 induction m with
 | nil => simp [insGo]
 | cons y r ih =>
  have hy := hv y (by simp)
  rw [insGo]
  rw [List.pairwise_cons] at ha
  split
  ·rename_i hlt
   rw [List.pairwise_cons, List.pairwise_cons]
   refine ⟨fun z hz => ?_, ha⟩
   rcases List.mem_cons.1 hz with rfl | hz
   ·exact hlt
   ·exact cmpE_tr hx hy (hv z (by simp [hz])) hlt (ha.1 z hz)
  ·rename_i hge
   rw [List.pairwise_cons]
   refine ⟨fun z hz => ?_, ih (fun h => hn (by simp [h])) ha.2 (fun e he => hv e (by simp [he]))⟩
   rcases insGo_mem.1 hz with rfl | hz
   ·have h1 := cmpE_anti hy hx
    have h2 : cmpE y z ≠ 0 := fun e => hn (by rw [← (cmpE_eq hy hx).1 e]; simp)
    omega
   ·exact ha.1 z hz
def grantR (m : List Ent) (e : Ent) : List Ent × Int := if e.r < 1 ∨ 63 < e.r then (m, 1) else if checkS e.p ≠ 0 then (m, checkS e.p) else if e ∈ m then (m, 5) else if 1000 ≤ m.length then (m, 14) else (insGo cmpE e m, 0)
def dropR (m : List Ent) (e : Ent) : List Ent × Int := if e.r < 1 ∨ 63 < e.r then (m, 1) else if e ∉ m then (m, 4) else (m.filter (· != e), 0)
theorem OkG.grant {m : List Ent} (h : OkG m) {e : Ent} (he : e.p.ok) : OkG (grantR m e).1 := by
 unfold grantR
 split
 ·exact h
 split
 ·exact h
 split
 ·exact h
 split
 ·exact h
 ·rename_i h1 h2 h3 h4
  have hv : Ve e := ⟨by omega, by omega, he, by omega⟩
  exact ⟨insGo_pwE h hv h3, fun x hx => (insGo_mem.1 hx).elim (fun q => q ▸ hv) (h.ve x), by rw [insGo_lenG]; omega⟩
theorem OkG.drop {m : List Ent} (h : OkG m) (e : Ent) : OkG (dropR m e).1 := by
 unfold dropR
 split
 ·exact h
 split
 ·exact h
 ·exact ⟨h.asc.filter _, fun x hx => h.ve x (List.mem_filter.1 hx).1, Nat.le_trans (List.length_filter_le _ _) h.len⟩
theorem ixE {m : List Ent} {e : Ent} : decide (ixOf (fun y => y == e) m < 0) = decide (e ∉ m) := by
 have h := ixOf_ge (fun y : Ent => y == e) m
 rw [Bool.eq_iff_iff] at h ⊢
 simp only [decide_eq_true_iff, List.any_eq_true, beq_iff_eq] at h ⊢
 constructor
 ·intro h1 h2
  have := h.2 ⟨e, h2, rfl⟩
  omega
 ·intro h1
  rcases Int.lt_or_le (ixOf (fun y : Ent => y == e) m) 0 with h2 | h2
  ·exact h2
  ·obtain ⟨y, hy, he⟩ := h.1 h2
   exact absurd (he ▸ hy) h1
def lessE (a b : Ent) : Bool := decide (cmpE a b < 0)
def insD (m : List Ent) (e : Ent) (k : Nat) : Bool := (m.take k).any (lessE e)
def insO (m : List Ent) (e : Ent) (k : Nat) : List Ent := if insD m e k then insGo cmpE e (m.take k) else m.take k
theorem insGo_snoc {f : Ent → Ent → Int} {p x : Ent} : ∀ (l : List Ent), insGo f p (l ++ [x]) = if l.any (fun y => decide (f p y < 0)) then insGo f p l ++ [x] else l ++ (if f p x < 0 then [p, x] else [x, p])
 | [] => by simp [insGo]
 | y :: l => by
  rw [List.cons_append, insGo, insGo, List.any_cons]
  by_cases h : f p y < 0
  ·simp [h]
  ·simp only [h, if_false, decide_false, Bool.false_or]
   rw [insGo_snoc l]
   split <;> simp
theorem insGo_none {f : Ent → Ent → Int} {p : Ent} : ∀ (l : List Ent), l.any (fun y => decide (f p y < 0)) = false → insGo f p l = l ++ [p]
 | [], _ => rfl
 | y :: l, h => by
  rw [List.any_cons, Bool.or_eq_false_iff] at h
  rw [insGo, if_neg (by simpa using h.1), insGo_none l h.2]; rfl
theorem takeE {m : List Ent} {k : Nat} (h : k < m.length) : m.take (k + 1) = m.take k ++ [m.getD k ez] := by
 rw [List.take_succ_eq_append_getElem h]; simp [List.getD, h]
theorem insD_succ {m : List Ent} {e : Ent} {k : Nat} (h : k < m.length) : insD m e (k + 1) = (insD m e k || lessE e (m.getD k ez)) := by
 unfold insD; rw [takeE h, List.any_append]; simp
theorem insO_len (m : List Ent) (e : Ent) (k : Nat) : (insO m e k).length ≤ m.length + 1 := by
 unfold insO
 split
 ·rw [insGo_lenG, List.length_take]; omega
 ·rw [List.length_take]; omega
theorem ins_yes {m : List Ent} {e : Ent} {k : Nat} (h : k < m.length) (hd : insD m e k = false) (hl : lessE e (m.getD k ez) = true) : insO m e (k + 1) = insO m e k ++ [e] ++ [m.getD k ez] ∧ insD m e (k + 1) = true := by
 have h1 : insD m e (k + 1) = true := by rw [insD_succ h, hl, Bool.or_true]
 refine ⟨?_, h1⟩
 unfold insO
 rw [if_pos h1, hd, takeE h, insGo_snoc]
 have h2 : (m.take k).any (fun y => decide (cmpE e y < 0)) = false := hd
 rw [h2, if_pos (of_decide_eq_true hl)]
 simp
theorem ins_no {m : List Ent} {e : Ent} {k : Nat} (h : k < m.length) (hc : (!insD m e k && lessE e (m.getD k ez)) = false) : insO m e (k + 1) = insO m e k ++ [m.getD k ez] ∧ insD m e (k + 1) = insD m e k := by
 cases hd : insD m e k with
 | true =>
  have h1 : insD m e (k + 1) = true := by rw [insD_succ h, hd, Bool.true_or]
  refine ⟨?_, h1⟩
  unfold insO
  rw [if_pos h1, hd, takeE h, insGo_snoc]
  have h2 : (m.take k).any (fun y => decide (cmpE e y < 0)) = true := hd
  rw [h2]; simp
 | false =>
  have hl : lessE e (m.getD k ez) = false := by rw [hd] at hc; simpa using hc
  have h1 : insD m e (k + 1) = false := by rw [insD_succ h, hd, hl]; rfl
  refine ⟨?_, h1⟩
  unfold insO
  rw [h1, hd, takeE h]
  simp
theorem ins_end {m : List Ent} {e : Ent} {k : Nat} (h : m.length ≤ k) : insGo cmpE e m = if insD m e k then insO m e k else insO m e k ++ [e] := by
 have ht : m.take k = m := List.take_of_length_le h
 unfold insO
 cases hd : insD m e k with
 | true => simp [ht]
 | false =>
  unfold insD at hd
  rw [ht] at hd ⊢
  simp [insGo_none m hd]
section
variable {m : List Ent} {k : Nat} {s : W64} {r : Int}
end
section
variable {imp : Int → Int → Bool} {m l : List Ent} {k : Nat}
end
end Go.Lx
