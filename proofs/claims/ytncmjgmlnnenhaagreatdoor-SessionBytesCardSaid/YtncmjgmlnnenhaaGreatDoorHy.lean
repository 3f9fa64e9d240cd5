/- Several texts in one file. -/
import Derived.Test.YtncmjgmlnnenhaaGreatDoorPtr
import Derived.Test.YtncmjgmlnnenhaaGreatDoorSess
import Derived.Test.YtncmjgmlnnenhaaGreatDoorPure11f
import Derived.Test.YtncmjgmlnnenhaaGreatDoorSv
import Derived.Test.YtncmjgmlnnenhaaGreatDoorWpr
import Derived.Test.YtncmjgmlnnenhaaGreatDoorShelf
import Derived.Lib.BitFns
import Derived.Test.YtncmjgmlnnenhaaGreatDoorOwn3
import Derived.Test.YtncmjgmlnnenhaaGreatDoorDrawC
import Derived.Laws.IdiomStrings
/- Orders and hierarchies as results; calls that make own slices in a region that draws. Nothing of a program stands here. -/
namespace Go.Lx
open Go Go.RowKit
set_option linter.unusedSimpArgs false
set_option linter.unusedVariables false
set_option linter.unnecessarySimpa false
theorem mem_comp {α : Type} [BEq α] [LawfulBEq α] (x : α) : ∀ (l acc : List α), x ∈ l.foldl compStep acc ↔ x ∈ acc ∨ x ∈ l
  | [], acc => by simp
  | y :: l, acc => by
    rw [List.foldl_cons, mem_comp x l]
    unfold compStep
    split
    · rename_i h
      have hy : y ∈ acc := List.mem_of_getLast? (by simpa using h)
      constructor
      · rintro (h1 | h1)
        · exact .inl h1
        · exact .inr (by simp [h1])
      · rintro (h1 | h1)
        · exact .inl h1
        · rcases List.mem_cons.1 h1 with rfl | h1
          · exact .inl hy
          · exact .inr h1
    · simp only [List.mem_append, List.mem_cons, List.not_mem_nil, or_false]
      exact or_assoc
theorem mem_compL {α : Type} [BEq α] [LawfulBEq α] (x : α) (l : List α) : x ∈ compL l ↔ x ∈ l := by
  unfold compL; rw [mem_comp]; simp
theorem comp_len {α : Type} [BEq α] : ∀ (l acc : List α), (l.foldl compStep acc).length ≤ acc.length + l.length
  | [], acc => by simp
  | y :: l, acc => by
    rw [List.foldl_cons]
    refine Nat.le_trans (comp_len l _) ?_
    unfold compStep
    split
    · simp
    · simp; omega
theorem compL_len {α : Type} [BEq α] (l : List α) : (compL l).length ≤ l.length := by
  have := comp_len l []
  simpa [compL] using this
theorem HOk.congr {o : OV} {L M : List Pr} (h : HOk o L) (hm : ∀ x, x ∈ L ↔ x ∈ M) (hl : L.length ≤ M.length) : HOk o M :=
  ⟨h.n, fun x => (h.ps x).trans (hm x), Nat.le_trans h.le hl, h.be.congr hm, h.ab.congr hm⟩
section
variable {α : Type} {enc : α → List Value} {s : Nat} {e : TypeId} {β : Prop} {P : Program} {ops : Array Oper} {o : Oper} {fr : Fr} {w : World} {c : Nat → Nat} {f : FuncId} {args : Array Value} {l : List α} {kc : Nat}
theorem OpC_own (hg : o.guard = none) (h : xop P fr w o = .ok (.enter f args) w) (hk : Ok P f args w fun v' w' => Own enc s e (Fsh w w') w' v' l ∧ Ext β w w') (hd : o.dst.isSome = true := by rfl) : OpC β kc P ops o fr w c (postOwn enc s e kc l) :=
  .inl ⟨by simp [Region.wanted, hg], .inr ⟨f, args, w, h, hd, hk.mono fun v' w' ⟨h1, x⟩ => ⟨newC c w kc, StepC.ext x fun _ hb => newC_old hb, h1.mono fun b _ hb => newC_new hb.1⟩⟩⟩
end
def KeepS (S : (Nat → Prop) → Value → World → Prop) : Prop := ∀ (F : Nat → Prop) (v : Value) (γ : Prop) (D : Nat → Prop) (w w' : World), Bel γ D w w' → (∀ b, b < w.heap.size → F b → ¬ D b) → S F v w → S F v w'
def postW (S : (Nat → Prop) → Value → World → Prop) : PostC := fun v w c => ∃ F, (∀ b, F b → b < w.heap.size ∧ c b = 0) ∧ S F v w
theorem postW_stable {S : (Nat → Prop) → Value → World → Prop} {kc : Nat} (hS : KeepS S) : StableC kc (postW S) := by
  intro v w c w' c' q hq hx ⟨F, hF, hr⟩
  refine ⟨F, fun b hb => ⟨Nat.lt_of_lt_of_le (hF b hb).1 hx.bel.size, (hx.col b (hF b hb).1).trans (hF b hb).2⟩, hS _ _ _ _ _ _ hx.bel (fun b _ hb hd => hd.1 ?_) hr⟩
  rw [← hd.2]; exact (hF b hb).2
theorem OpC_W {S : (Nat → Prop) → Value → World → Prop} {β : Prop} {k : Nat} {P : Program} {ops : Array Oper} {o : Oper} {fr : Fr} {w : World} {c : Nat → Nat} {f : FuncId} {args : Array Value} (hg : o.guard = none) (h : xop P fr w o = .ok (.enter f args) w) (hk : Ok P f args w fun v' w' => S (Fsh w w') v' w' ∧ Ext β w w') (hd : o.dst.isSome = true := by rfl) : OpC β k P ops o fr w c (postW S) :=
  .inl ⟨by simp [Region.wanted, hg], .inr ⟨f, args, w, h, hd, hk.mono fun _ w' ⟨a, b⟩ => ⟨newC c w 0, StepC.ext b fun _ hb => newC_old hb, Fsh w w', fun b hb => ⟨hb.2, newC_new hb.1⟩, a⟩⟩⟩
def OdRes (L : List Pr) (F : Nat → Prop) (v : Value) (w : World) : Prop := ∃ p o, v = .tuple #[.pointer (some ⟨p, 0, none⟩), .int .i64 0] ∧ OdAt F w p o ∧ HOk o L
def OdPtr (L : List Pr) (F : Nat → Prop) (v : Value) (w : World) : Prop := ∃ p o, v = .pointer (some ⟨p, 0, none⟩) ∧ OdAt F w p o ∧ HOk o L
theorem OdRes.keepS (L : List Pr) : KeepS (OdRes L) := fun F v γ D w w' x hd ⟨p, o, h1, h2, h3⟩ => ⟨p, o, h1, h2.keep x hd, h3⟩
theorem OdPtr.keepS (L : List Pr) : KeepS (OdPtr L) := fun F v γ D w w' x hd ⟨p, o, h1, h2, h3⟩ => ⟨p, o, h1, h2.keep x hd, h3⟩
def HyIs (w : World) (v : Value) (L : List Pr) : Prop := ∃ ph po o, v = .pointer (some ⟨ph, 0, none⟩) ∧ At w ph 0 [.pointer (some ⟨po, 0, none⟩)] ∧ OdAt (Lt w.heap.size) w po o ∧ HOk o L
theorem HyIs.ext {γ : Prop} {w w' : World} {v : Value} {L : List Pr} (h : HyIs w v L) (x : Ext γ w w') : HyIs w' v L :=
  let ⟨ph, po, o, h1, h2, h3, h4⟩ := h
  ⟨ph, po, o, h1, h2.keep x id, (h3.ext x).mono fun _ hb _ => hb, h4⟩
theorem HyIs.congr {w : World} {v : Value} {L M : List Pr} (h : HyIs w v L) (hm : ∀ x, x ∈ L ↔ x ∈ M) (hl : L.length ≤ M.length) : HyIs w v M :=
  let ⟨ph, po, o, h1, h2, h3, h4⟩ := h
  ⟨ph, po, o, h1, h2, h3, h4.congr hm hl⟩
theorem Rd.keepS {α : Type} (enc : α → List Value) (k : Nat) (p : List α → Prop) : KeepS fun F v w => ∃ l, Rd enc k F w v l ∧ p l := fun F v γ D w w' x hd ⟨l, h1, h2⟩ => ⟨l, h1.keep x hd, h2⟩
def LkP (L : List Pr) (x : Pr) (M : List Pr) : Prop := x ∈ L ∧ M = L ∨ x ∉ L ∧ InsP L x M
def LkRes (L : List Pr) (x : Pr) (F : Nat → Prop) (v : Value) (w : World) : Prop := ∃ u M e, v = .tuple #[u, .int .i64 e] ∧ Rd encPr 2 F w u M ∧ LkP L x M
theorem LkRes.keepS (L : List Pr) (x : Pr) : KeepS (LkRes L x) := fun F v γ D w w' x hd ⟨u, M, e, h1, h2, h3⟩ => ⟨u, M, e, h1, h2.keep x hd, h3⟩
theorem LkP.ok {L M : List Pr} {x : Pr} {ρ : Fin 64 → Nat} (h : LkOk L ρ) (hp : LkP L x M) (hr : ρ x.1 < ρ x.2) (hq : 1 ≤ x.1.val ∧ 1 ≤ x.2.val) : LkOk M ρ ∧ M.length ≤ L.length + 1 := by
  rcases hp with ⟨_, rfl⟩ | ⟨hn, hi⟩
  · exact ⟨h, by omega⟩
  · exact ⟨h.ins hi hn hr hq, by rw [hi.len]; omega⟩
def HyRes (L : List Pr) (v : Value) (w : World) : Prop := ∃ u, v = .tuple #[u, .int .i64 0] ∧ HyIs w u L
section
variable {P : Program} {fr : Fr} {w : World} {d : Option Nat} {t : TypeId} {ps : String} {af : Array Edge} {g : Option (Nat × Bool)}
theorem o_convU {T U : TypeId} {x : Operand} {a : W64} {n : Nat} (hP : P.underlying T = some (.int .u64)) (hP' : P.underlying U = some (.int .i64)) (hx : ev fr x = u64 a) (hn : a.toNat = n) (hl : n < 9223372036854775808) : xop P fr w ⟨d, .convert T U x, t, ps, af, g⟩ = .ok (.value (.int .i64 (n : Int))) w := by
  have h := o_conv (w := w) (d := d) (t := t) (ps := ps) (af := af) (g := g) (k' := .i64) hP hP' hx
  have e : IntKind.i64.wrap (a.toNat : Int) = (n : Int) := by rw [hn]; exact wrap_in (by unfold I64; omega)
  rw [e] at h
  exact h
end
section
variable {α : Type} {enc : α → List Value} {k : Nat} {F : Nat → Prop} {P : Program} {fr : Fr} {w : World} {d : Option Nat} {t : TypeId} {ps : String} {af : Array Edge} {g : Option (Nat × Bool)} {a : Option Addr} {c i m : Nat} {l : List α} {y : α} {T : TypeId} {x z : Operand}
theorem o_faE {fs : Array Field} {f n : Nat} {G : Field} (hP : P.underlying T = some (.struct fs)) (hf : fs[f]? = some G) (hs : ∀ w, (sizeOf G.type).run P w = .ok (n + 1) w) (hr : Sl enc k F w a c l) (hx : ev fr x = .pointer (elp a m)) (hi : l[i]? = some y) :
    xop P fr w ⟨d, .fieldAddr T x f, t, ps, af, g⟩ = .ok (.value (.pointer (elp a (m + G.offset)))) w := by
  obtain ⟨b, off, rfl, _, _, _⟩ := hr.el i _ hi
  rw [elp_some] at hx ⊢
  rw [← Nat.add_assoc]
  exact o_fa hP hf hs hx
theorem o_ldE {j : Nat} {v : Value} (ha : ∀ w, (isAgg T).run P w = .ok false w) (hr : Sl enc k F w a c l) (hx : ev fr x = .pointer (elp a (i * k + j))) (hi : l[i]? = some y) (hv : (enc y)[j]? = some v) :
    xop P fr w ⟨d, .load T x, t, ps, af, g⟩ = .ok (.value v) w := by
  obtain ⟨b, off, rfl, _, h3, _⟩ := hr.el i _ hi
  rw [elp_some] at hx
  have h := h3 j v hv
  rw [Nat.add_assoc] at h
  exact o_load1 ha hx h
theorem o_ldES {j s : Nat} {cs : List Value} (ha : ∀ w, (isAgg T).run P w = .ok true w) (hs : ∀ w, (sizeOf T).run P w = .ok s w) (hr : Sl enc k F w a c l) (hx : ev fr x = .pointer (elp a (i * k + j))) (hi : l[i]? = some y) (hv : ((enc y).drop j).take s = cs) (hc : cs.length = s) :
    xop P fr w ⟨d, .load T x, t, ps, af, g⟩ = .ok (.value (.agg cs.toArray)) w := by
  obtain ⟨b, off, rfl, _, h3, _⟩ := hr.el i _ hi
  rw [elp_some] at hx
  subst hv
  have h := h3.sub j s
  rw [Nat.add_assoc] at h
  exact o_loadS ha hs hx h hc
end
theorem o_slfrom2 {P : Program} {fr : Fr} {w : World} {d : Option Nat} {t e T : TypeId} {ps : String} {af : Array Edge} {g : Option (Nat × Bool)} {x y : Operand} {a : Option Addr} {m c s j : Nat} (hP : P.underlying T = some (.slice e)) (hs : ∀ w, (sizeOf e).run P w = .ok s w) (hx : ev fr x = .slice a m c) (hj : ev fr y = .int .i64 (j : Int)) (hl : j ≤ m) (hc : m ≤ c) :
    xop P fr w ⟨d, .slice T x (some y) none none, t, ps, af, g⟩ = .ok (.value (.slice (if c = j then a else elp a (j * s)) (m - j) (c - j))) w := by
  rcases Nat.lt_or_ge j c with h | h
  · rw [if_neg (by omega)]; exact o_sfromO hP hs hx hj hl h
  · obtain rfl : c = j := by omega
    obtain rfl : m = c := by omega
    rw [if_pos rfl]
    simp [xop, execOp, hx, hj, Instr.slice, Instr.sliceAt, Instr.sliceBounds, Instr.sliceBound, asIntOf, run_underlying hP, hs, elp]
theorem o_convV {P : Program} {fr : Fr} {w : World} {d : Option Nat} {t : TypeId} {ps : String} {af : Array Edge} {g : Option (Nat × Bool)} {T U : TypeId} {x : Operand} {n : Nat} (hP : P.underlying T = some (.int .i64)) (hP' : P.underlying U = some (.int .u64)) (hx : ev fr x = .int .i64 (n : Int)) (hl : n < 18446744073709551616) : xop P fr w ⟨d, .convert T U x, t, ps, af, g⟩ = .ok (.value (u64 (BitVec.ofNat 64 n))) w := by
  have h := o_conv (w := w) (d := d) (t := t) (ps := ps) (af := af) (g := g) (k' := .u64) hP hP' hx
  rw [wrapU'] at h
  exact h
def SvIs (e : W64) (F : Nat → Prop) (v : Value) (w : World) : Prop := ∃ a c, v = .agg (encSV ⟨a, c, e⟩).toArray ∧ Sl encU 1 F w a c (wl e)
theorem SvIs.keepS (e : W64) : KeepS (SvIs e) := fun F v γ D w w' x hd ⟨a, c, h1, h2⟩ => ⟨a, c, h1, h2.keep x hd⟩
theorem o_convB8 {P : Program} {fr : Fr} {w : World} {d : Option Nat} {t : TypeId} {ps : String} {af : Array Edge} {g : Option (Nat × Bool)} {T U : TypeId} {x : Operand} {b : UInt8} (hP : P.underlying T = some (.int .u8)) (hP' : P.underlying U = some (.int .u64)) (hx : ev fr x = .int .u8 (b.toNat : Int)) : xop P fr w ⟨d, .convert T U x, t, ps, af, g⟩ = .ok (.value (u64 (BitVec.ofNat 64 b.toNat))) w := by
  have h := o_conv (w := w) (d := d) (t := t) (ps := ps) (af := af) (g := g) (k' := .u64) hP hP' hx
  rw [wrapU'] at h
  exact h
end Go.Lx
/- slices.SortFunc over pairs, by the library's contract, laid at this translation. -/
namespace Go.Proofs.YtncmjgmlnnenhaaGreatDoor
open Go Go.Lx Go.RowKit Go.Shelf Go.Lib Go.Sort
set_option linter.unusedSimpArgs false
set_option linter.unusedVariables false
set_option linter.unnecessarySimpa false
set_option maxRecDepth 100000
theorem swoPr : Sort.SWO (ltOf cmpPr) where
  irrefl x := by simp [ltOf, (cmpPr_is.eq x x).2 rfl]
  trans x y z h1 h2 := by
    simp only [ltOf, decide_eq_true_eq] at *
    exact cmpPr_is.tr _ _ _ h1 h2
  ntrans x y z h1 h2 := by
    simp only [ltOf, decide_eq_false_iff_not] at *
    intro h
    have a1 := cmpPr_is.anti x y
    have a2 := cmpPr_is.anti y z
    have a3 := cmpPr_is.anti x z
    by_cases e : cmpPr x y = 0
    · have := (cmpPr_is.eq x y).1 e; subst this; omega
    · by_cases e2 : cmpPr y z = 0
      · have := (cmpPr_is.eq y z).1 e2; subst this; omega
      · have := cmpPr_is.tr z y x (by omega) (by omega); omega
theorem cmpLaysPr (blk off size : Nat) (w : World) : CmpLays Tryz.prog 134 #[] encPr 2 cmpPr blk off size w :=
  fun m os dk _ x y => Calls.mono (ocmp_ok True (sortWorldK encPr 2 w blk off m dk os) x y) fun _ _ ⟨_, h1, h2, h3⟩ => ⟨by rw [h1, h2], ext_grow h3⟩
theorem sortpr_ok (D : Nat → Prop) (v : Value) (l : List Pr) (w : World) (ho : Own encPr 2 127 D w v l) (hl : l.length ≤ 1000000) :
    Ok Tryz.prog 133 #[v, .func (.func 134) #[] #[]] w fun v' w' => v' = .tuple #[] ∧ Bel False D w w' ∧ ∃ l' : List Pr, l'.Perm l ∧ l'.Pairwise (fun x y => cmpPr x y ≤ 0) ∧ Own encPr 2 127 D w' v l' := by
  rcases ho.row.2 with ⟨h1, h2⟩ | ⟨g, cap, cur, h1, h2, h3, _⟩
  · have : l = [] := List.eq_nil_of_length_eq_zero h2
    subst this h1
    have hcon := AnyF.slices_SortFunc_none Tryz.sortI0 none 0 (.func (.func 134) #[] #[]) w
    change Calls Tryz.prog 133 _ _ _ at hcon
    exact Calls.mono hcon fun e w' ⟨h1, h2⟩ => ⟨_, h1, rfl, by rw [h2]; exact Bel.refl _ _, [], List.Perm.refl _, List.Pairwise.nil, by rw [h2]; exact Own.nil _ _⟩
  · subst h1
    have hlt : g < w.heap.size := (Array.getElem?_eq_some_iff.1 h3).1
    have hcon := AnyQ.slices_SortFunc Tryz.sortI0 2 Tryz.isAgg127 Tryz.sizeOf127 encPr encPr_ok.len encPr_ok.one cmpPr swoPr 134 #[] g 0 cap l.toArray w Tryz.call134 (cmpLaysPr _ _ _ _) (own_holds encPr_ok ho) hlt (by simp; omega)
    change Calls Tryz.prog 133 _ _ _ at hcon
    simp only [List.size_toArray] at hcon
    refine Calls.mono hcon ?_
    rintro e w' ⟨he, d', n, os, hp, hs, rfl⟩
    obtain ⟨hsz, _, hperm⟩ := hp
    have hsz' : d'.size = l.length := by simpa using hsz
    obtain ⟨ho', hb⟩ := own_sorted encPr_ok (n := n) (os := os) ho hsz'
    refine ⟨_, he, rfl, hb.weak, d'.toList, ?_, ?_, ho'⟩
    · have e1 : d'.extract 0 l.length = d' := by rw [← hsz']; exact Array.extract_size
      have e2 : l.toArray.extract 0 l.length = l.toArray := by simp
      rw [e1, e2] at hperm
      exact hperm
    · rw [List.pairwise_iff_getElem]
      intro i j hi hj hij
      have := hs i j (Nat.zero_le _) hij (by simpa [hsz'] using hj)
      simp only [ltOf, decide_eq_false_iff_not] at this
      have hi' : i < d'.size := by simpa using hi
      have hj' : j < d'.size := by simpa using hj
      rw [getElem!_pos d' i hi', getElem!_pos d' j hj'] at this
      have h2 := cmpPr_is.anti d'[j] d'[i]
      simp only [Array.getElem_toList]
      omega
end Go.Proofs.YtncmjgmlnnenhaaGreatDoor
/- The bytes of numbers and sets, as the wire has them: plain law. Nothing of a program stands here. -/
namespace Go.Lx
open Go
set_option linter.unusedSimpArgs false
set_option linter.unusedVariables false
set_option linter.unnecessarySimpa false
def b7 (x : W64) : UInt8 := UInt8.ofNat (x &&& 127#64).toNat
theorem shr7_lt {x : W64} (h : x ≠ 0) : (x >>> 7).toNat < x.toNat := by
  have : x.toNat ≠ 0 := fun e => h (BitVec.eq_of_toNat_eq e)
  rw [BitVec.toNat_ushiftRight, Nat.shiftRight_eq_div_pow]; omega
def gT (x : W64) : List UInt8 := if h : x = 0 then [] else (b7 x ||| 128) :: gT (x >>> 7)
termination_by x.toNat
decreasing_by exact shr7_lt h
theorem gT_zero : gT 0 = [] := by rw [gT]; simp
theorem gT_some {x : W64} (h : x ≠ 0) : gT x = (b7 x ||| 128) :: gT (x >>> 7) := by rw [gT, dif_neg h]
def putU (x : W64) : List UInt8 := (b7 x :: gT (x >>> 7)).reverse
theorem b7_nat (x : W64) : (b7 x).toNat = x.toNat % 128 := by
  have h : (x &&& 127#64).toNat = x.toNat % 128 := by
    rw [BitVec.toNat_and]
    show x.toNat &&& 127 = _
    exact Nat.and_two_pow_sub_one_eq_mod x.toNat 7
  rw [b7, h, UInt8.toNat_ofNat']
  omega
theorem b8_nat (c : UInt8) (h : c.toNat < 128) : (c ||| 128).toNat = c.toNat + 128 := by
  rw [UInt8.toNat_or]
  show c.toNat ||| 128 = _
  have h1 := Nat.two_pow_add_eq_or_of_lt (i := 7) (b := c.toNat) h 1
  rw [Nat.or_comm]
  simp only [Nat.mul_one] at h1
  show 2 ^ 7 ||| c.toNat = _
  rw [← h1]; omega
def gVal : List UInt8 → Nat
  | [] => 0
  | c :: l => c.toNat % 128 + 128 * gVal l
theorem gVal_gT (x : W64) : gVal (gT x) = x.toNat := by
  rw [gT]
  split
  · rename_i h; subst h; rfl
  · rename_i h
    have h1 := gVal_gT (x >>> 7)
    have h2 := b7_nat x
    rw [gVal, h1, b8_nat _ (by omega), BitVec.toNat_ushiftRight, Nat.shiftRight_eq_div_pow, h2]
    omega
termination_by x.toNat
decreasing_by exact shr7_lt (by assumption)
theorem gT_ge (x : W64) : ∀ c ∈ gT x, 128 ≤ c.toNat := by
  rw [gT]
  split
  · intro c hc; cases hc
  · rename_i h
    have h1 := gT_ge (x >>> 7)
    intro c hc
    rcases List.mem_cons.1 hc with rfl | hc
    · have := b7_nat x
      rw [b8_nat _ (by omega)]; omega
    · exact h1 c hc
termination_by x.toNat
decreasing_by exact shr7_lt (by assumption)
theorem putU_val (x : W64) : gVal (b7 x :: gT (x >>> 7)) = x.toNat := by
  rw [gVal, gVal_gT, b7_nat, BitVec.toNat_ushiftRight, Nat.shiftRight_eq_div_pow]; omega
theorem putU_inj0 {x y : W64} (h : putU x = putU y) : x = y := by
  have h1 : b7 x :: gT (x >>> 7) = b7 y :: gT (y >>> 7) := List.reverse_inj.1 h
  have h2 := putU_val x
  rw [h1, putU_val] at h2
  exact BitVec.eq_of_toNat_eq h2.symm
theorem split_at {A B r s : List UInt8} {a b : UInt8} (hA : ∀ c ∈ A, 128 ≤ c.toNat) (hB : ∀ c ∈ B, 128 ≤ c.toNat) (ha : a.toNat < 128) (hb : b.toNat < 128) (h : A ++ a :: r = B ++ b :: s) : A = B ∧ a = b ∧ r = s := by
  induction A generalizing B with
  | nil =>
    cases B with
    | nil => simp at h; exact ⟨rfl, h.1, h.2⟩
    | cons c B =>
      simp at h
      have := hB c (by simp)
      rw [← h.1] at this; omega
  | cons d A ih =>
    cases B with
    | nil =>
      simp at h
      have := hA d (by simp)
      rw [h.1] at this; omega
    | cons c B =>
      simp at h
      obtain ⟨h1, h2, h3⟩ := ih (fun c hc => hA c (by simp [hc])) (fun c hc => hB c (by simp [hc])) h.2
      exact ⟨by rw [h.1, h1], h2, h3⟩
theorem putU_eq (x : W64) : putU x = (gT (x >>> 7)).reverse ++ [b7 x] := by rw [putU, List.reverse_cons]
theorem putU_inj {x y : W64} {r s : List UInt8} (h : putU x ++ r = putU y ++ s) : x = y ∧ r = s := by
  rw [putU_eq, putU_eq, List.append_assoc, List.append_assoc] at h
  have hx := b7_nat x; have hy := b7_nat y
  obtain ⟨h1, h2, h3⟩ := split_at (fun c hc => gT_ge _ c (by simpa using hc)) (fun c hc => gT_ge _ c (by simpa using hc)) (by omega) (by omega) h
  exact ⟨putU_inj0 (by rw [putU_eq, putU_eq, h1, h2]), h3⟩
theorem gT_len (x : W64) (k : Nat) (h : x.toNat < 2 ^ (7 * k)) : (gT x).length ≤ k := by
  induction k generalizing x with
  | zero =>
    have : x = 0 := BitVec.eq_of_toNat_eq (by simpa using h)
    rw [this, gT_zero]; simp
  | succ k ih =>
    by_cases hx : x = 0
    · rw [hx, gT_zero]; simp
    · rw [gT_some hx, List.length_cons]
      have := ih (x >>> 7) (by rw [BitVec.toNat_ushiftRight, Nat.shiftRight_eq_div_pow]; rw [Nat.mul_add, Nat.pow_add] at h; omega)
      omega
theorem putU_len (x : W64) : (putU x).length ≤ 11 := by
  have h := gT_len (x >>> 7) 10 (by have := (x >>> 7).isLt; omega)
  rw [putU_eq, List.length_append, List.length_reverse]; simp; omega
def putB (l : List UInt8) : List UInt8 := putU (BitVec.ofNat 64 l.length) ++ l
theorem putB_inj {a b r s : List UInt8} (ha : a.length < 2 ^ 64) (hb : b.length < 2 ^ 64) (h : putB a ++ r = putB b ++ s) : a = b ∧ r = s := by
  rw [putB, putB, List.append_assoc, List.append_assoc] at h
  obtain ⟨h1, h2⟩ := putU_inj h
  have h3 : a.length = b.length := by
    have := congrArg BitVec.toNat h1
    rw [BitVec.toNat_ofNat, BitVec.toNat_ofNat, Nat.mod_eq_of_lt ha, Nat.mod_eq_of_lt hb] at this
    exact this
  exact List.append_inj h2 h3
def topW (x : W64) : Nat := Lib.bitLen x.toNat - 1
def byteW (x : W64) (k : Nat) : UInt8 := UInt8.ofNat (x >>> (8 * k)).toNat
def setB (x : W64) : List UInt8 := if x = 0 then [] else (List.range (topW x / 8 + 1)).map (byteW x)
theorem topW_spec {x : W64} (h : x ≠ 0) : 1 ≤ Lib.bitLen x.toNat ∧ topW x < 64 ∧ x.toNat < 2 ^ (topW x + 1) := by
  have h0 : x.toNat ≠ 0 := fun e => h (BitVec.eq_of_toNat_eq e)
  have h1 := Lib.bitLen_le x.toNat 64 (by decide) x.isLt
  have h2 : 1 ≤ Lib.bitLen x.toNat := by rw [Lib.bitLen_half _ h0 x.isLt]; omega
  refine ⟨h2, by unfold topW; omega, ?_⟩
  have e : topW x + 1 = Lib.bitLen x.toNat := by unfold topW; omega
  rw [e]
  have aux : ∀ (f n : Nat), n < 2 ^ f → n < 2 ^ Lib.bitLenAux f n := by
    intro f
    induction f with
    | zero => intro n hn; simp [Lib.bitLenAux]; omega
    | succ f ih =>
      intro n hn
      rw [Lib.bitLenAux]
      split
      · rename_i hz; simp_all
      · have h3 := ih (n / 2) (by rw [Nat.pow_succ] at hn; omega)
        rw [Nat.add_comm, Nat.pow_succ]; omega
  exact aux 64 _ x.isLt
theorem setB_len (x : W64) : (setB x).length ≤ 8 := by
  unfold setB
  split
  · simp
  · rename_i h
    have := (topW_spec h).2.1
    simp; omega
theorem byteW_nat (x : W64) (k : Nat) : (byteW x k).toNat = x.toNat / 2 ^ (8 * k) % 256 := by
  rw [byteW, UInt8.toNat_ofNat', BitVec.toNat_ushiftRight, Nat.shiftRight_eq_div_pow]
theorem byteW_bits (x y : W64) (n : Nat) (h : ∀ k, k < n → byteW x k = byteW y k) : x.toNat % 2 ^ (8 * n) = y.toNat % 2 ^ (8 * n) := by
  induction n with
  | zero => simp [Nat.mod_one]
  | succ n ih =>
    have h1 := ih fun k hk => h k (by omega)
    have h2 := congrArg UInt8.toNat (h n (by omega))
    rw [byteW_nat, byteW_nat] at h2
    rw [Nat.mul_add, Nat.pow_add, Nat.mod_mul, Nat.mod_mul, h1]
    simp only [Nat.mul_one] at h2 ⊢
    rw [show (2 : Nat) ^ 8 = 256 from rfl, h2]
theorem setB_inj {x y : W64} (h : setB x = setB y) : x = y := by
  by_cases hx : x = 0
  · by_cases hy : y = 0
    · rw [hx, hy]
    · rw [setB, setB, if_pos hx, if_neg hy] at h
      have := congrArg List.length h
      simp at this
  · by_cases hy : y = 0
    · rw [setB, setB, if_neg hx, if_pos hy] at h
      have := congrArg List.length h
      simp at this
    · rw [setB, setB, if_neg hx, if_neg hy] at h
      have hl := congrArg List.length h
      simp at hl
      rw [hl] at h
      have h3 : ∀ k, k < topW y / 8 + 1 → byteW x k = byteW y k := fun k hk => by
        have := congrArg (fun l : List UInt8 => l[k]?) h
        simpa [List.getElem?_map, List.getElem?_range, hk] using this
      have h4 := byteW_bits x y _ h3
      have fit : ∀ z : W64, z ≠ 0 → topW z / 8 + 1 = topW y / 8 + 1 → z.toNat % 2 ^ (8 * (topW y / 8 + 1)) = z.toNat := fun z hz he => by
        refine Nat.mod_eq_of_lt (Nat.lt_of_lt_of_le (topW_spec hz).2.2 (Nat.pow_le_pow_right (by decide) (by omega)))
      rw [fit x hx (by omega), fit y hy rfl] at h4
      exact BitVec.eq_of_toNat_eq h4
structure RevI (l m : List UInt8) (i : Nat) : Prop where
  len : m.length = l.length
  le : 2 * i ≤ l.length + 1
  get : ∀ k, m[k]? = if k < i ∨ (l.length ≤ k + i ∧ k < l.length) then l[l.length - 1 - k]? else l[k]?
theorem RevI.start (l : List UInt8) : RevI l l 0 := ⟨rfl, by omega, fun k => by
  rw [if_neg (by omega)]⟩
theorem RevI.fin {l m : List UInt8} {i : Nat} (h : RevI l m i) (hi : l.length ≤ 2 * i + 1) : m = l.reverse := by
  refine List.ext_getElem? fun k => ?_
  rw [h.get k]
  by_cases hk : k < l.length
  · rw [List.getElem?_reverse hk]
    split
    · rfl
    · have : k = l.length - 1 - k := by omega
      rw [← this]
  · have h1 : l.reverse[k]? = none := by simp; omega
    rw [h1]
    split
    · rename_i h2
      have := h.le
      have : l.length - 1 - k = 0 := by omega
      rcases Nat.eq_zero_or_pos l.length with h0 | h0
      · simp [List.length_eq_zero_iff.1 h0]
      · omega
    · simp; omega
theorem RevI.step {l m : List UInt8} {i j : Nat} (h : RevI l m i) (hj : l.length = i + j + 1) (hij : i < j) : RevI l ((m.set i (m.getD j 0)).set j (m.getD i 0)) (i + 1) := by
  have hm := h.len
  refine ⟨by simp [hm], by omega, fun k => ?_⟩
  have h1 : m.getD j 0 = l.getD j 0 := by simp only [List.getD]; rw [h.get j, if_neg (by omega)]
  have h2 : m.getD i 0 = l.getD i 0 := by simp only [List.getD]; rw [h.get i, if_neg (by omega)]
  have gi : l[i]? = some (l.getD i 0) := by simp [List.getD, show i < l.length by omega]
  have gj : l[j]? = some (l.getD j 0) := by simp [List.getD, show j < l.length by omega]
  rw [h1, h2, List.getElem?_set, List.getElem?_set]
  by_cases e1 : j = k
  · subst e1
    rw [if_pos rfl, if_pos (by simp; omega), if_pos (by omega), show l.length - 1 - j = i by omega, gi]
  · rw [if_neg e1]
    by_cases e2 : i = k
    · subst e2
      rw [if_pos rfl, if_pos (by omega), if_pos (by omega), show l.length - 1 - i = j by omega, gj]
    · rw [if_neg e2, h.get k]
      by_cases c : k < i ∨ (l.length ≤ k + i ∧ k < l.length)
      · rw [if_pos c, if_pos (by omega)]
      · rw [if_neg c]
        by_cases c2 : k < i + 1 ∨ (l.length ≤ k + (i + 1) ∧ k < l.length)
        · omega
        · rw [if_neg c2]
structure BytI (x : W64) (n k : Nat) (m : List UInt8) : Prop where
  len : m.length = n
  get : ∀ j, j < k → m[j]? = some (byteW x j)
theorem BytI.start (x : W64) (n : Nat) : BytI x n 0 (List.replicate n 0) := ⟨by simp, fun j h => absurd h (Nat.not_lt_zero _)⟩
theorem BytI.step {x : W64} {n k : Nat} {m : List UInt8} (h : BytI x n k m) (hk : k < n) : BytI x n (k + 1) (m.set k (byteW x k)) := by
  have hl := h.len
  refine ⟨by simp [hl], fun j hj => ?_⟩
  rw [List.getElem?_set]
  by_cases e : k = j
  · subst e; rw [if_pos rfl, if_pos (by omega)]
  · rw [if_neg e]; exact h.get j (by omega)
theorem BytI.fin {x : W64} {n k : Nat} {m : List UInt8} (h : BytI x n k m) (hk : n ≤ k) : m = (List.range n).map (byteW x) := by
  refine List.ext_getElem? fun j => ?_
  by_cases hj : j < n
  · rw [h.get j (by omega), List.getElem?_map, List.getElem?_range hj]; rfl
  · rw [List.getElem?_eq_none (by rw [h.len]; omega), List.getElem?_eq_none (by simp; omega)]
def iW (i : Int) : W64 := BitVec.ofNat 64 i.toNat
end Go.Lx
/- A writer of bytes in memory; the rules of its operations. Nothing of a program stands here. -/
namespace Go.Lx
open Go Go.RowKit
set_option linter.unusedSimpArgs false
set_option linter.unusedVariables false
set_option linter.unnecessarySimpa false
def Wr (T e : TypeId) (D : Nat → Prop) (w : World) (v : Value) (l : List UInt8) : Prop := ∃ b u, v = .pointer (some ⟨b, 0, none⟩) ∧ D b ∧ Box w b T [u] ∧ Own encB 1 e (fun g => D g ∧ g ≠ b) w u l
section
variable {T e : TypeId} {D D' : Nat → Prop} {γ : Prop} {w w' : World} {v : Value} {l : List UInt8}
theorem Wr.keepD (h : Wr T e D w v l) (x : Bel γ D' w w') (hd : ∀ g, g < w.heap.size → D g → ¬ D' g) : Wr T e D w' v l :=
  let ⟨b, u, h1, h2, h3, h4⟩ := h
  ⟨b, u, h1, h2, h3.keep x (hd b h3.lt h2), h4.keepD x fun g hg hD => hd g hg hD.1⟩
theorem Wr.ext (h : Wr T e D w v l) (x : Ext γ w w') : Wr T e D w' v l := h.keepD x fun _ _ _ => id
theorem Wr.mono (h : Wr T e D w v l) (hd : ∀ g, g < w.heap.size → D g → D' g) : Wr T e D' w v l :=
  let ⟨b, u, h1, h2, h3, h4⟩ := h
  ⟨b, u, h1, hd b h3.lt h2, h3, h4.mono fun g hg hD => ⟨hd g hg hD.1, hD.2⟩⟩
end
section
variable {P : Program} {fr : Fr} {w : World} {d : Option Nat} {t : TypeId} {ps : String} {af : Array Edge} {g : Option (Nat × Bool)} {x y z : Operand} {T U : TypeId}
theorem wrapU8 (n : Nat) : IntKind.u8.wrap (n : Int) = ((UInt8.ofNat n).toNat : Int) := by
  rw [UInt8.toNat_ofNat']
  simp [IntKind.wrap, IntKind.bits, IntKind.signed]
theorem o_convUB {a : W64} (hP : P.underlying T = some (.int .u64)) (hP' : P.underlying U = some (.int .u8)) (hx : ev fr x = u64 a) : xop P fr w ⟨d, .convert T U x, t, ps, af, g⟩ = .ok (.value (.int .u8 ((UInt8.ofNat a.toNat).toNat : Int))) w := by
  have h := o_conv (w := w) (d := d) (t := t) (ps := ps) (af := af) (g := g) (k' := .u8) hP hP' hx
  rw [wrapU8] at h
  exact h
theorem o_convI {i : Int} (hP : P.underlying T = some (.int .i64)) (hP' : P.underlying U = some (.int .u64)) (hx : ev fr x = .int .i64 i) (h0 : 0 ≤ i) (hl : i < 18446744073709551616) : xop P fr w ⟨d, .convert T U x, t, ps, af, g⟩ = .ok (.value (u64 (BitVec.ofNat 64 i.toNat))) w := by
  obtain ⟨n, rfl⟩ := Int.eq_ofNat_of_zero_le h0
  exact o_convV hP hP' hx (by omega)
theorem o_quoN {V : TypeId} {a b : Nat} (hx : ev fr x = .int .i64 (a : Int)) (hy : ev fr y = .int .i64 (b : Int)) (hb : 0 < b) (hr : a ≤ 9223372036854775807) : xop P fr w ⟨d, .binOp .quo T x y V, t, ps, af, g⟩ = .ok (.value (.int .i64 ((a / b : Nat) : Int))) w :=
  o_quoT (a := (a : Int)) hx hy (by omega) hb (by unfold I64; omega)
theorem o_mulN {V : TypeId} {a b : Nat} (hx : ev fr x = .int .i64 (a : Int)) (hy : ev fr y = .int .i64 (b : Int)) (hr : a * b ≤ 9223372036854775807) : xop P fr w ⟨d, .binOp .mul T x y V, t, ps, af, g⟩ = .ok (.value (.int .i64 ((a * b : Nat) : Int))) w := by
  have h := o_mul (P := P) (w := w) (d := d) (t := t) (ps := ps) (af := af) (g := g) (T := T) (U := V) hx hy (by unfold I64; rw [← Int.natCast_mul]; omega)
  rwa [← Int.natCast_mul] at h
theorem o_bandB {a b : UInt8} (hx : ev fr x = .int .u8 (a.toNat : Int)) (hy : ev fr y = .int .u8 (b.toNat : Int)) : xop P fr w ⟨d, .binOp .and T x y U, t, ps, af, g⟩ = .ok (.value (.int .u8 ((a &&& b).toNat : Int))) w := by
  have e1 : (BitVec.ofInt 8 (a.toNat : Int)) = a.toBitVec := by
    rw [BitVec.ofInt_natCast]; apply BitVec.eq_of_toNat_eq; rw [BitVec.toNat_ofNat]; exact Nat.mod_eq_of_lt a.toNat_lt
  have e2 : (BitVec.ofInt 8 (b.toNat : Int)) = b.toBitVec := by
    rw [BitVec.ofInt_natCast]; apply BitVec.eq_of_toNat_eq; rw [BitVec.toNat_ofNat]; exact Nat.mod_eq_of_lt b.toNat_lt
  have e : IntKind.u8.wrap ((BitVec.ofInt IntKind.u8.bits (a.toNat : Int) &&& BitVec.ofInt IntKind.u8.bits (b.toNat : Int)).toNat : Int) = ((a &&& b).toNat : Int) := by
    show IntKind.u8.wrap ((BitVec.ofInt 8 (a.toNat : Int) &&& BitVec.ofInt 8 (b.toNat : Int)).toNat : Int) = _
    rw [e1, e2, ← UInt8.toBitVec_and]
    show IntKind.u8.wrap (((a &&& b).toNat : Nat) : Int) = _
    rw [wrapU8, UInt8.ofNat_toNat]
  simp only [xop, execOp, hx, hy, eqGuard, binOp, Op.intBits]
  simp only [e]; simp
theorem o_borB {a b : UInt8} (hx : ev fr x = .int .u8 (a.toNat : Int)) (hy : ev fr y = .int .u8 (b.toNat : Int)) : xop P fr w ⟨d, .binOp .or T x y U, t, ps, af, g⟩ = .ok (.value (.int .u8 ((a ||| b).toNat : Int))) w := by
  have e1 : (BitVec.ofInt 8 (a.toNat : Int)) = a.toBitVec := by
    rw [BitVec.ofInt_natCast]; apply BitVec.eq_of_toNat_eq; rw [BitVec.toNat_ofNat]; exact Nat.mod_eq_of_lt a.toNat_lt
  have e2 : (BitVec.ofInt 8 (b.toNat : Int)) = b.toBitVec := by
    rw [BitVec.ofInt_natCast]; apply BitVec.eq_of_toNat_eq; rw [BitVec.toNat_ofNat]; exact Nat.mod_eq_of_lt b.toNat_lt
  have e : IntKind.u8.wrap ((BitVec.ofInt IntKind.u8.bits (a.toNat : Int) ||| BitVec.ofInt IntKind.u8.bits (b.toNat : Int)).toNat : Int) = ((a ||| b).toNat : Int) := by
    show IntKind.u8.wrap ((BitVec.ofInt 8 (a.toNat : Int) ||| BitVec.ofInt 8 (b.toNat : Int)).toNat : Int) = _
    rw [e1, e2, ← UInt8.toBitVec_or]
    show IntKind.u8.wrap (((a ||| b).toNat : Nat) : Int) = _
    rw [wrapU8, UInt8.ofNat_toNat]
  simp only [xop, execOp, hx, hy, eqGuard, binOp, Op.intBits]
  simp only [e]; simp
end
def postOwnAt {α : Type} (enc : α → List Value) (k : Nat) (e : TypeId) (kc : Nat) (u : Value) (l : List α) : PostC := fun _ w c => Own enc k e (fun b => c b = kc) w u l
theorem postOwnAt_stable {α : Type} {enc : α → List Value} {k kc : Nat} {e : TypeId} {u : Value} {l : List α} : StableC kc (postOwnAt enc k e kc u l) := fun v w c w' c' q hq hx hp => postOwn_stable u w c w' c' q hq hx hp
theorem OpC_elst {α : Type} {enc : α → List Value} {k : Nat} {e U : TypeId} {β : Prop} {P : Program} {fr : Fr} {w : World} {c : Nat → Nat} {ops : Array Oper} {ty : TypeId} {pos : String} {after : Array Edge} {kc : Nat} {x y : Operand} {v : Value} {l : List α} {a : Option Addr} {cp i m : Nat} {u : α} (h0 : kc ≠ 0)
    (he : EncOk enc k) (hs : ∀ w, (sizeOf U).run P w = .ok k w) (hx : ev fr x = .pointer (elp a (i * k))) (hy : ev fr y = v) (hv : v.cells.toList = enc u) (ho : Own enc k e (fun g => c g = kc) w (.slice a m cp) l) (hi : i < l.length) :
    OpC β kc P ops ⟨none, .store U x y, ty, pos, after, none⟩ fr w c (postOwnAt enc k e kc (.slice a m cp) (l.set i u)) := by
  rcases ho.row.2 with ⟨h1, h2⟩ | ⟨g, cap, cur, h1, h2, h3, h4, h5, h6, h7⟩
  · omega
  · have hsl : a = some ⟨g, 0, none⟩ ∧ m = l.length ∧ cp = cap := by simp at h1; exact h1
    obtain ⟨rfl, rfl, rfl⟩ := hsl
    rw [elp_some, Nat.zero_add] at hx
    have hlk : l.length * k ≤ cur.size := by rw [h6]; exact Nat.mul_le_mul_right _ h4
    have hik : i * k + k ≤ l.length * k := by rw [← Nat.succ_mul]; exact Nat.mul_le_mul_right _ hi
    have hvl : v.cells.toList.length = k := by rw [hv, he.len]
    have hst := run_storeCells_at (P := P) g (i * k) e v.cells.toList 0 cur w h3 (by rw [hvl]; omega) (by rw [hv]; exact he.one u)
    simp only [Nat.add_zero, hvl] at hst
    have hsz : v.cells.size = k := by rw [← Array.length_toList]; exact hvl
    have hcg : c g = kc := ho.loc g rfl
    refine .inl ⟨rfl, .inl ⟨lkV _ fr, w.setRow g (cur.toList.take (i * k) ++ v.cells.toList ++ cur.toList.drop (i * k + k)).toArray, c, .inr ⟨?_, rfl⟩, ⟨⟨rfl, rfl, rfl, by simp, fun j _ hj => setRow_other w g j _ (fun e => hj ⟨h0, by subst e; exact hcg⟩), fun _ => Nat.le_refl _⟩, fun _ _ => rfl⟩, ?_⟩⟩
    · simp [execOp, hx, hy, Instr.storeAt, Instr.sureAddr, storeVar, hs, hsz, hst]
    · have hcl : (cur.toList.take (i * k) ++ v.cells.toList ++ cur.toList.drop (i * k + k)).length = cur.size := by
        simp only [List.length_append, hvl, List.length_take, List.length_drop, Array.length_toList]; omega
      refine ⟨⟨by rw [fm_len he], .inr ⟨g, cp, _, by simp, h2, setRow_heap w g cur _ e _ h3, by simpa using h4, h5, by rw [List.size_toArray, hcl, h6], ?_⟩⟩, ho.loc⟩
      rw [List.length_set, List.toList_toArray, set_flat he hi, ← hv]
      have t1 : cur.toList.take (i * k) = (l.flatMap enc).take (i * k) := by rw [← h7, List.take_take]; congr 1; omega
      have t2 : (l.flatMap enc).drop (i * k + k) = (cur.toList.drop (i * k + k)).take (l.length * k - (i * k + k)) := by rw [← h7, List.drop_take]
      rw [t1, t2]
      have hA : ((l.flatMap enc).take (i * k) ++ v.cells.toList).length = i * k + k := by
        rw [List.length_append, hvl, List.length_take, fm_len he]; omega
      rw [List.take_append, hA, List.take_of_length_le (by rw [hA]; exact hik)]
section
variable {rd : Option Nat} {P : Program} {n : Nat} {K : Fr → World → Prop} {fr : Fr} {w : World} {l : List UInt8} {T U e : TypeId} {x : Operand} {a : Option Addr} {c : Nat} {F : Nat → Prop}
theorem o_bs {d : Option Nat} {t : TypeId} {ps : String} {af : Array Edge} {g : Option (Nat × Bool)} (hP : P.underlying T = some (.slice e)) (he : P.underlying e = some (.int .u8)) (hU : P.underlying U = some .string) (hx : ev fr x = .slice a l.length c) (hs : Sl encB 1 F w a c l) :
    xop P fr w ⟨d, .convert T U x, t, ps, af, g⟩ = .ok (.value (str l)) w := by
  have key : (convert T U (.slice a l.length c)).run P w = .ok (str l) w := by
    cases a with
    | none =>
      have h0 : c = 0 := hs.nil rfl
      have h1 := hs.le
      have h2 : l = [] := List.eq_nil_of_length_eq_zero (by omega)
      subst h2
      rw [run_convert_bytes_string w T U e none _ c hP he hU]
      simp [Conv.bytesToString, str]
      rfl
    | some ad =>
      refine run_convert_bytes_back w T U e ad c l hP he hU fun j hj => ?_
      have hne : l ≠ [] := by rintro rfl; simp at hj
      obtain ⟨b, off, h1, h2, h3⟩ := hs.cells encB_ok hne
      simp only [Option.some.injEq] at h1
      subst h1
      have hfm : (l.flatMap encB)[j]? = some (.int .u8 (l[j].toNat : Int)) := by
        have h4 := fm_get (i := j) (x := l[j]) encB_ok (List.getElem?_eq_getElem hj) 0 (by decide)
        simpa [encB] using h4
      have := h3 j _ hfm
      unfold Addr.add
      by_cases h : j = 0
      · subst h; simpa using this
      · rw [if_neg h]; exact this
  simp only [xop, execOp, hx, key, eqGuard]
  simp [key]
end
def OwA {α : Type} (enc : α → List Value) (k : Nat) (e : TypeId) (w : World) (g : Nat) (v : Value) (l : List α) : Prop := Own enc k e (fun b => b = g) w v l ∧ v.ownBlock = some g ∧ g < w.heap.size
section
variable {α : Type} {enc : α → List Value} {k kc : Nat} {e : TypeId} {D : Nat → Prop} {w w' : World} {g : Nat} {v : Value} {l : List α} {c : Nat → Nat}
theorem OwA.lt (h : OwA enc k e w g v l) : g < w.heap.size := h.2.2
theorem OwA.col (h : OwA enc k e w g v l) (hc : c g = kc) : Own enc k e (fun b => c b = kc) w v l := h.1.mono fun b _ hb => by subst hb; exact hc
theorem OwA.blk (h : OwA enc k e w g v l) (hb : w'.heap[g]? = w.heap[g]?) : OwA enc k e w' g v l := by
  obtain ⟨⟨hr, hl⟩, ho, hlt⟩ := h
  have hlt' : g < w'.heap.size := by
    rw [Array.getElem?_eq_getElem hlt] at hb
    exact (Array.getElem?_eq_some_iff.1 hb).1
  refine ⟨⟨⟨hr.1, ?_⟩, hl⟩, ho, hlt'⟩
  rcases hr.2 with ⟨h1, h2⟩ | ⟨g', cap, cur, h1, h2, h3, h4⟩
  · exact .inl ⟨h1, h2⟩
  · have e1 : g' = g := by rw [h1] at ho; simpa [Value.ownBlock] using ho
    subst e1
    exact .inr ⟨g', cap, cur, h1, h2, hb.trans h3, h4⟩
theorem Own.blk0 (h : Own enc k e D w v l) (hne : l ≠ []) : ∃ g, v.ownBlock = some g ∧ D g ∧ OwA enc k e w g v l := by
  obtain ⟨g, c, rfl⟩ := h.sm hne
  have hg : (Value.slice (some ⟨g, 0, none⟩) l.length c).ownBlock = some g := rfl
  exact ⟨g, hg, h.loc g hg, h.at (fun b _ hb => by rw [hg] at hb; cases hb; rfl), hg, h.lt g hg⟩
end
end Go.Lx
/- The library's count of a word's bits. -/
namespace Go.Lx
open Go Go.RowKit
theorem len_ok (x : W64) (w : World) : Ok Proofs.Tryz.prog 146 #[u64 x] w fun v w' => v = .int .i64 (Lib.bitLen x.toNat : Int) ∧ Ext False w w' := by
  refine Calls.mono (Proofs.Any.bits_Len64 Proofs.Tryz.len64l (x.toNat : Int) w (by omega) (by have := x.isLt; omega)) ?_
  rintro e w' ⟨rfl, rfl⟩
  exact ⟨_, rfl, by simp, Ext.rfl' _⟩
theorem len_one {x : W64} (h : x ≠ 0) : ((Lib.bitLen x.toNat : Nat) : Int) - 1 = (topW x : Int) ∧ Lib.bitLen x.toNat ≤ 64 := by
  have h1 := topW_spec h
  unfold topW at *
  omega
end Go.Lx
/- The bytes of sessions: plain law. Nothing of a program stands here. -/
namespace Go.Lx
open Go
set_option linter.unusedSimpArgs false
set_option linter.unusedVariables false
def sesB (s : RS) : List UInt8 := putU (iW s.n) ++ putU (iW s.u) ++ putB (setB s.x)
def bytesK (m : List RS) (k : Nat) : List UInt8 := putU (BitVec.ofNat 64 m.length) ++ (m.take k).flatMap sesB
def bytesM (m : List RS) : List UInt8 := putU (BitVec.ofNat 64 m.length) ++ m.flatMap sesB
theorem bytesK_zero (m : List RS) : bytesK m 0 = putU (BitVec.ofNat 64 m.length) := by simp [bytesK]
theorem bytesK_end {m : List RS} {k : Nat} (h : m.length ≤ k) : bytesK m k = bytesM m := by rw [bytesK, List.take_of_length_le h, bytesM]
theorem bytesK_succ {m : List RS} {k : Nat} (h : k < m.length) : bytesK m (k + 1) = ((bytesK m k ++ putU (iW (m.getD k rz).n)) ++ putU (iW (m.getD k rz).u)) ++ putB (setB (m.getD k rz).x) := by
  have e : m[k] = m.getD k rz := by simp [List.getD, h]
  rw [bytesK, bytesK, List.take_succ_eq_append_getElem h, List.flatMap_append, e]
  simp [sesB, List.append_assoc]
theorem putB_len (l : List UInt8) : (putB l).length ≤ 11 + l.length := by
  rw [putB, List.length_append]
  have := putU_len (BitVec.ofNat 64 l.length); omega
theorem sesB_len (s : RS) : (sesB s).length ≤ 41 := by
  rw [sesB, List.length_append, List.length_append]
  have h1 := putU_len (iW s.n); have h2 := putU_len (iW s.u); have h3 := putB_len (setB s.x); have h4 := setB_len s.x
  omega
theorem fmB_len (m : List RS) : (m.flatMap sesB).length ≤ 41 * m.length := by
  induction m with
  | nil => simp
  | cons s m ih =>
    rw [List.flatMap_cons, List.length_append, List.length_cons]
    have := sesB_len s; omega
theorem bytesK_len {m : List RS} (k : Nat) (h : m.length ≤ 64) : (bytesK m k).length ≤ 3000 := by
  rw [bytesK, List.length_append]
  have h1 := putU_len (BitVec.ofNat 64 m.length)
  have h2 := fmB_len (m.take k)
  have h3 : (m.take k).length ≤ m.length := by simp; omega
  omega
theorem iW_inj {i j : Int} (hi : 0 ≤ i ∧ i < 1000) (hj : 0 ≤ j ∧ j < 1000) (h : iW i = iW j) : i = j := by
  have := congrArg BitVec.toNat h
  simp only [iW, BitVec.toNat_ofNat] at this
  omega
theorem fmB_inj {a b : List RS} (ha : ∀ s ∈ a, (0 ≤ s.n ∧ s.n < 1000) ∧ 0 ≤ s.u ∧ s.u < 1000) (hb : ∀ s ∈ b, (0 ≤ s.n ∧ s.n < 1000) ∧ 0 ≤ s.u ∧ s.u < 1000) (hl : a.length = b.length) (h : a.flatMap sesB = b.flatMap sesB) : a = b := by
  induction a generalizing b with
  | nil => exact (List.eq_nil_of_length_eq_zero (by simpa using hl.symm)).symm
  | cons s a ih =>
    cases b with
    | nil => simp at hl
    | cons t b =>
      rw [List.flatMap_cons, List.flatMap_cons, sesB, sesB] at h
      simp only [List.append_assoc] at h
      obtain ⟨h1, h4⟩ := putU_inj h
      obtain ⟨h2, h5⟩ := putU_inj h4
      obtain ⟨h3, h6⟩ := putB_inj (by have := setB_len s.x; omega) (by have := setB_len t.x; omega) h5
      have hs := ha s (by simp); have ht := hb t (by simp)
      have e1 := iW_inj hs.1 ht.1 h1
      have e2 := iW_inj hs.2 ht.2 h2
      have e3 := setB_inj h3
      obtain ⟨n, u, x⟩ := s; obtain ⟨n', u', x'⟩ := t
      simp only at e1 e2 e3
      subst e1; subst e2; subst e3
      rw [ih (fun s hs => ha s (by simp [hs])) (fun s hs => hb s (by simp [hs])) (by simpa using hl) h6]
theorem bytesM_inj {a b : List RS} (ha : OkM a) (hb : OkM b) (h : bytesM a = bytesM b) : a = b := by
  have h1 := ha.len; have h2 := hb.len
  rw [bytesM, bytesM] at h
  obtain ⟨e, h⟩ := putU_inj h
  have el : a.length = b.length := by
    have := congrArg BitVec.toNat e
    simp only [BitVec.toNat_ofNat] at this
    omega
  refine fmB_inj (fun s hs => ⟨?_, ?_⟩) (fun s hs => ⟨?_, ?_⟩) el h
  · have := ha.rng s hs; omega
  · have := ha.usr s hs; omega
  · have := hb.rng s hs; omega
  · have := hb.usr s hs; omega
theorem bytesM_beq {a b : List RS} (ha : OkM a) (hb : OkM b) : (bytesM a == bytesM b) = (a == b) := by
  rw [Bool.eq_iff_iff, beq_iff_eq, beq_iff_eq]
  exact ⟨bytesM_inj ha hb, fun h => by rw [h]⟩
theorem beq_swR (x y : List RS) : (x == y) = (y == x) := by
  rw [Bool.eq_iff_iff, beq_iff_eq, beq_iff_eq]; exact ⟨Eq.symm, Eq.symm⟩
end Go.Lx
