/- Several texts in one file. -/
import Derived.Test.YtncmjgmlnnenhaaGreatDoorPtr
import Derived.Test.YtncmjgmlnnenhaaGreatDoorSess
import Derived.Test.YtncmjgmlnnenhaaGreatDoorPure11f
import Derived.Test.YtncmjgmlnnenhaaGreatDoorSv
import Derived.Test.YtncmjgmlnnenhaaGreatDoorWpr
import Derived.Test.YtncmjgmlnnenhaaGreatDoorShelf
import Derived.Lib.BitFns
import Derived.Test.YtncmjgmlnnenhaaGreatDoorOwn3
import Derived.Test.YtncmjgmlnnenhaaGreatDoorDrawC
import Derived.Laws.IdiomStrings
/- Orders and hierarchies as results; calls that make own slices in a region that draws. Nothing of a program stands here. -/
namespace Go.Lx
open Go Go.RowKit
set_option linter.unusedSimpArgs false
set_option linter.unusedVariables false
set_option linter.unnecessarySimpa false
theorem mem_comp {α : Type} [BEq α] [LawfulBEq α] (x : α) : ∀ (l acc : List α), x ∈ l.foldl compStep acc ↔ x ∈ acc ∨ x ∈ l
  | [], acc => by simp
  | y :: l, acc => by
    rw [List.foldl_cons, mem_comp x l]
    unfold compStep
    split
    · rename_i h
      have hy : y ∈ acc := List.mem_of_getLast? (by simpa using h)
      constructor
      · rintro (h1 | h1)
        · exact .inl h1
        · exact .inr (by simp [h1])
      · rintro (h1 | h1)
        · exact .inl h1
        · rcases List.mem_cons.1 h1 with rfl | h1
          · exact .inl hy
          · exact .inr h1
    · simp only [List.mem_append, List.mem_cons, List.not_mem_nil, or_false]
      exact or_assoc
theorem mem_compL {α : Type} [BEq α] [LawfulBEq α] (x : α) (l : List α) : x ∈ compL l ↔ x ∈ l := by
  unfold compL; rw [mem_comp]; simp
theorem comp_len {α : Type} [BEq α] : ∀ (l acc : List α), (l.foldl compStep acc).length ≤ acc.length + l.length
  | [], acc => by simp
  | y :: l, acc => by
    rw [List.foldl_cons]
    refine Nat.le_trans (comp_len l _) ?_
    unfold compStep
    split
    · simp
    · simp; omega
theorem compL_len {α : Type} [BEq α] (l : List α) : (compL l).length ≤ l.length := by
  have := comp_len l []
  simpa [compL] using this
theorem HOk.congr {o : OV} {L M : List Pr} (h : HOk o L) (hm : ∀ x, x ∈ L ↔ x ∈ M) (hl : L.length ≤ M.length) : HOk o M :=
  ⟨h.n, fun x => (h.ps x).trans (hm x), Nat.le_trans h.le hl, h.be.congr hm, h.ab.congr hm⟩
section
variable {α : Type} {enc : α → List Value} {s : Nat} {e : TypeId} {β : Prop} {P : Program} {ops : Array Oper} {o : Oper} {fr : Fr} {w : World} {c : Nat → Nat} {f : FuncId} {args : Array Value} {l : List α} {kc : Nat}
theorem OpC_own (hg : o.guard = none) (h : xop P fr w o = .ok (.enter f args) w) (hk : Ok P f args w fun v' w' => Own enc s e (Fsh w w') w' v' l ∧ Ext β w w') (hd : o.dst.isSome = true := by rfl) : OpC β kc P ops o fr w c (postOwn enc s e kc l) :=
  .inl ⟨by simp [Region.wanted, hg], .inr ⟨f, args, w, h, hd, hk.mono fun v' w' ⟨h1, x⟩ => ⟨newC c w kc, StepC.ext x fun _ hb => newC_old hb, h1.mono fun b _ hb => newC_new hb.1⟩⟩⟩
end
def KeepS (S : (Nat → Prop) → Value → World → Prop) : Prop := ∀ (F : Nat → Prop) (v : Value) (γ : Prop) (D : Nat → Prop) (w w' : World), Bel γ D w w' → (∀ b, b < w.heap.size → F b → ¬ D b) → S F v w → S F v w'
def postW (S : (Nat → Prop) → Value → World → Prop) : PostC := fun v w c => ∃ F, (∀ b, F b → b < w.heap.size ∧ c b = 0) ∧ S F v w
theorem postW_stable {S : (Nat → Prop) → Value → World → Prop} {kc : Nat} (hS : KeepS S) : StableC kc (postW S) := by
  intro v w c w' c' q hq hx ⟨F, hF, hr⟩
  refine ⟨F, fun b hb => ⟨Nat.lt_of_lt_of_le (hF b hb).1 hx.bel.size, (hx.col b (hF b hb).1).trans (hF b hb).2⟩, hS _ _ _ _ _ _ hx.bel (fun b _ hb hd => hd.1 ?_) hr⟩
  rw [← hd.2]; exact (hF b hb).2
theorem OpC_W {S : (Nat → Prop) → Value → World → Prop} {β : Prop} {k : Nat} {P : Program} {ops : Array Oper} {o : Oper} {fr : Fr} {w : World} {c : Nat → Nat} {f : FuncId} {args : Array Value} (hg : o.guard = none) (h : xop P fr w o = .ok (.enter f args) w) (hk : Ok P f args w fun v' w' => S (Fsh w w') v' w' ∧ Ext β w w') (hd : o.dst.isSome = true := by rfl) : OpC β k P ops o fr w c (postW S) :=
  .inl ⟨by simp [Region.wanted, hg], .inr ⟨f, args, w, h, hd, hk.mono fun _ w' ⟨a, b⟩ => ⟨newC c w 0, StepC.ext b fun _ hb => newC_old hb, Fsh w w', fun b hb => ⟨hb.2, newC_new hb.1⟩, a⟩⟩⟩
def OdRes (L : List Pr) (F : Nat → Prop) (v : Value) (w : World) : Prop := ∃ p o, v = .tuple #[.pointer (some ⟨p, 0, none⟩), .int .i64 0] ∧ OdAt F w p o ∧ HOk o L
def OdPtr (L : List Pr) (F : Nat → Prop) (v : Value) (w : World) : Prop := ∃ p o, v = .pointer (some ⟨p, 0, none⟩) ∧ OdAt F w p o ∧ HOk o L
theorem OdRes.keepS (L : List Pr) : KeepS (OdRes L) := fun F v γ D w w' x hd ⟨p, o, h1, h2, h3⟩ => ⟨p, o, h1, h2.keep x hd, h3⟩
theorem OdPtr.keepS (L : List Pr) : KeepS (OdPtr L) := fun F v γ D w w' x hd ⟨p, o, h1, h2, h3⟩ => ⟨p, o, h1, h2.keep x hd, h3⟩
def HyIs (w : World) (v : Value) (L : List Pr) : Prop := ∃ ph po o, v = .pointer (some ⟨ph, 0, none⟩) ∧ At w ph 0 [.pointer (some ⟨po, 0, none⟩)] ∧ OdAt (Lt w.heap.size) w po o ∧ HOk o L
theorem HyIs.ext {γ : Prop} {w w' : World} {v : Value} {L : List Pr} (h : HyIs w v L) (x : Ext γ w w') : HyIs w' v L :=
  let ⟨ph, po, o, h1, h2, h3, h4⟩ := h
  ⟨ph, po, o, h1, h2.keep x id, (h3.ext x).mono fun _ hb _ => hb, h4⟩
theorem HyIs.congr {w : World} {v : Value} {L M : List Pr} (h : HyIs w v L) (hm : ∀ x, x ∈ L ↔ x ∈ M) (hl : L.length ≤ M.length) : HyIs w v M :=
  let ⟨ph, po, o, h1, h2, h3, h4⟩ := h
  ⟨ph, po, o, h1, h2, h3, h4.congr hm hl⟩
theorem OpC_W2 {S : (Nat → Prop) → Value → World → Prop} {β : Prop} {k : Nat} {P : Program} {ops : Array Oper} {o : Oper} {fr : Fr} {w : World} {c : Nat → Nat} {f : FuncId} {args : Array Value} (G : Nat → Prop) (hG : ∀ b, G b → b < w.heap.size ∧ c b = 0) (hg : o.guard = none) (h : xop P fr w o = .ok (.enter f args) w) (hk : Ok P f args w fun v' w' => S (fun b => G b ∨ Fsh w w' b) v' w' ∧ Ext β w w') (hd : o.dst.isSome = true := by rfl) : OpC β k P ops o fr w c (postW S) :=
  .inl ⟨by simp [Region.wanted, hg], .inr ⟨f, args, w, h, hd, hk.mono fun _ w' ⟨a, x⟩ => ⟨newC c w 0, StepC.ext x fun _ hb => newC_old hb, _, fun b hb => by
    rcases hb with hb | hb
    · exact ⟨Nat.lt_of_lt_of_le (hG b hb).1 x.size, (newC_old (hG b hb).1).trans (hG b hb).2⟩
    · exact ⟨hb.2, newC_new hb.1⟩, a⟩⟩⟩
theorem Rd.keepS {α : Type} (enc : α → List Value) (k : Nat) (p : List α → Prop) : KeepS fun F v w => ∃ l, Rd enc k F w v l ∧ p l := fun F v γ D w w' x hd ⟨l, h1, h2⟩ => ⟨l, h1.keep x hd, h2⟩
def postAny : PostC := fun _ _ _ => True
theorem postAny_stable {k : Nat} : StableC k postAny := fun _ _ _ _ _ _ _ _ _ => trivial
def LkP (L : List Pr) (x : Pr) (M : List Pr) : Prop := x ∈ L ∧ M = L ∨ x ∉ L ∧ InsP L x M
def LkRes (L : List Pr) (x : Pr) (F : Nat → Prop) (v : Value) (w : World) : Prop := ∃ u M e, v = .tuple #[u, .int .i64 e] ∧ Rd encPr 2 F w u M ∧ LkP L x M
theorem LkRes.keepS (L : List Pr) (x : Pr) : KeepS (LkRes L x) := fun F v γ D w w' x hd ⟨u, M, e, h1, h2, h3⟩ => ⟨u, M, e, h1, h2.keep x hd, h3⟩
theorem LkP.ok {L M : List Pr} {x : Pr} {ρ : Fin 64 → Nat} (h : LkOk L ρ) (hp : LkP L x M) (hr : ρ x.1 < ρ x.2) (hq : 1 ≤ x.1.val ∧ 1 ≤ x.2.val) : LkOk M ρ ∧ M.length ≤ L.length + 1 := by
  rcases hp with ⟨_, rfl⟩ | ⟨hn, hi⟩
  · exact ⟨h, by omega⟩
  · exact ⟨h.ins hi hn hr hq, by rw [hi.len]; omega⟩
theorem prB (z : Pr) (x y : Fin 64) : (iv z.1 == iv x && iv z.2 == iv y) = (z == (x, y)) := by
  rw [iv_beq, iv_beq]; rfl
def HyRes (L : List Pr) (v : Value) (w : World) : Prop := ∃ u, v = .tuple #[u, .int .i64 0] ∧ HyIs w u L
section
variable {P : Program} {fr : Fr} {w : World} {d : Option Nat} {t : TypeId} {ps : String} {af : Array Edge} {g : Option (Nat × Bool)}
theorem o_convU {T U : TypeId} {x : Operand} {a : W64} {n : Nat} (hP : P.underlying T = some (.int .u64)) (hP' : P.underlying U = some (.int .i64)) (hx : ev fr x = u64 a) (hn : a.toNat = n) (hl : n < 9223372036854775808) : xop P fr w ⟨d, .convert T U x, t, ps, af, g⟩ = .ok (.value (.int .i64 (n : Int))) w := by
  have h := o_conv (w := w) (d := d) (t := t) (ps := ps) (af := af) (g := g) (k' := .i64) hP hP' hx
  have e : IntKind.i64.wrap (a.toNat : Int) = (n : Int) := by rw [hn]; exact wrap_in (by unfold I64; omega)
  rw [e] at h
  exact h
end
section
variable {α : Type} {enc : α → List Value} {k : Nat} {F : Nat → Prop} {P : Program} {fr : Fr} {w : World} {d : Option Nat} {t : TypeId} {ps : String} {af : Array Edge} {g : Option (Nat × Bool)} {a : Option Addr} {c i m : Nat} {l : List α} {y : α} {T : TypeId} {x z : Operand}
theorem o_faE {fs : Array Field} {f n : Nat} {G : Field} (hP : P.underlying T = some (.struct fs)) (hf : fs[f]? = some G) (hs : ∀ w, (sizeOf G.type).run P w = .ok (n + 1) w) (hr : Sl enc k F w a c l) (hx : ev fr x = .pointer (elp a m)) (hi : l[i]? = some y) :
    xop P fr w ⟨d, .fieldAddr T x f, t, ps, af, g⟩ = .ok (.value (.pointer (elp a (m + G.offset)))) w := by
  obtain ⟨b, off, rfl, _, _, _⟩ := hr.el i _ hi
  rw [elp_some] at hx ⊢
  rw [← Nat.add_assoc]
  exact o_fa hP hf hs hx
theorem o_iaE {e : TypeId} {n j s : Nat} {K : IntKind} (hP : P.underlying T = some (.array n e)) (hs : ∀ w, (sizeOf e).run P w = .ok s w) (hr : Sl enc k F w a c l) (hx : ev fr x = .pointer (elp a m)) (hi : l[i]? = some y) (hy : ev fr z = .int K (j : Int)) (hj : j < n) :
    xop P fr w ⟨d, .indexAddr T x z, t, ps, af, g⟩ = .ok (.value (.pointer (elp a (m + j * s)))) w := by
  obtain ⟨b, off, rfl, _, _, _⟩ := hr.el i _ hi
  rw [elp_some] at hx ⊢
  rw [← Nat.add_assoc]
  exact o_iaA hP hs hx hy hj
theorem o_ldE {j : Nat} {v : Value} (ha : ∀ w, (isAgg T).run P w = .ok false w) (hr : Sl enc k F w a c l) (hx : ev fr x = .pointer (elp a (i * k + j))) (hi : l[i]? = some y) (hv : (enc y)[j]? = some v) :
    xop P fr w ⟨d, .load T x, t, ps, af, g⟩ = .ok (.value v) w := by
  obtain ⟨b, off, rfl, _, h3, _⟩ := hr.el i _ hi
  rw [elp_some] at hx
  have h := h3 j v hv
  rw [Nat.add_assoc] at h
  exact o_load1 ha hx h
theorem o_ldES {j s : Nat} {cs : List Value} (ha : ∀ w, (isAgg T).run P w = .ok true w) (hs : ∀ w, (sizeOf T).run P w = .ok s w) (hr : Sl enc k F w a c l) (hx : ev fr x = .pointer (elp a (i * k + j))) (hi : l[i]? = some y) (hv : ((enc y).drop j).take s = cs) (hc : cs.length = s) :
    xop P fr w ⟨d, .load T x, t, ps, af, g⟩ = .ok (.value (.agg cs.toArray)) w := by
  obtain ⟨b, off, rfl, _, h3, _⟩ := hr.el i _ hi
  rw [elp_some] at hx
  subst hv
  have h := h3.sub j s
  rw [Nat.add_assoc] at h
  exact o_loadS ha hs hx h hc
end
theorem o_slfrom2 {P : Program} {fr : Fr} {w : World} {d : Option Nat} {t e T : TypeId} {ps : String} {af : Array Edge} {g : Option (Nat × Bool)} {x y : Operand} {a : Option Addr} {m c s j : Nat} (hP : P.underlying T = some (.slice e)) (hs : ∀ w, (sizeOf e).run P w = .ok s w) (hx : ev fr x = .slice a m c) (hj : ev fr y = .int .i64 (j : Int)) (hl : j ≤ m) (hc : m ≤ c) :
    xop P fr w ⟨d, .slice T x (some y) none none, t, ps, af, g⟩ = .ok (.value (.slice (if c = j then a else elp a (j * s)) (m - j) (c - j))) w := by
  rcases Nat.lt_or_ge j c with h | h
  · rw [if_neg (by omega)]; exact o_sfromO hP hs hx hj hl h
  · obtain rfl : c = j := by omega
    obtain rfl : m = c := by omega
    rw [if_pos rfl]
    simp [xop, execOp, hx, hj, Instr.slice, Instr.sliceAt, Instr.sliceBounds, Instr.sliceBound, asIntOf, run_underlying hP, hs, elp]
theorem o_convV {P : Program} {fr : Fr} {w : World} {d : Option Nat} {t : TypeId} {ps : String} {af : Array Edge} {g : Option (Nat × Bool)} {T U : TypeId} {x : Operand} {n : Nat} (hP : P.underlying T = some (.int .i64)) (hP' : P.underlying U = some (.int .u64)) (hx : ev fr x = .int .i64 (n : Int)) (hl : n < 18446744073709551616) : xop P fr w ⟨d, .convert T U x, t, ps, af, g⟩ = .ok (.value (u64 (BitVec.ofNat 64 n))) w := by
  have h := o_conv (w := w) (d := d) (t := t) (ps := ps) (af := af) (g := g) (k' := .u64) hP hP' hx
  rw [wrapU'] at h
  exact h
theorem rem2_lt (x : W64) : (x % 2#64).toNat < 2 := by rw [BitVec.toNat_umod]; exact Nat.mod_lt _ (by decide)
theorem rem6_lt (x : W64) : (x % 6#64).toNat < 6 := by rw [BitVec.toNat_umod]; exact Nat.mod_lt _ (by decide)
theorem ord_eq (a b k : Nat) : ((1 : Int) + (((k : Int) * (1 + 4 * (a : Int)) + (b : Int)).toNat % 6 : Nat)) = ((ordN a b k : Nat) : Int) := by
  have e : ((k : Int) * (1 + 4 * (a : Int)) + (b : Int)) = ((k * (1 + 4 * a) + b : Nat) : Int) := by push_cast; rfl
  rw [e, Int.toNat_natCast]
  unfold ordN
  push_cast; rfl
theorem mul_small {k a : Nat} (hk : k < 6) (ha : a < 2) : 0 ≤ (k : Int) * (1 + 4 * (a : Int)) ∧ (k : Int) * (1 + 4 * (a : Int)) ≤ 25 := by
  have h : (k : Int) * (1 + 4 * (a : Int)) = ((k * (1 + 4 * a) : Nat) : Int) := by push_cast; rfl
  have h2 : k * (1 + 4 * a) ≤ 5 * 5 := Nat.mul_le_mul (by omega) (by omega)
  omega
def ordL (a b n : Nat) : List Int := (List.range n).map fun i => (ordN a b i : Int)
theorem ordL_succ (a b k : Nat) : ordL a b (k + 1) = ordL a b k ++ [((ordN a b k : Nat) : Int)] := by simp [ordL, List.range_succ]
theorem ordL_get {a b n i : Nat} (h : i < n) : (ordL a b n)[i]? = some (iv (ordF a b i)) := by
  simp [ordL, h]; rfl
def rkF (a b : Nat) (c : Fin 64) : Nat := rkN a b c.val
theorem rkF_lt {a b i k : Nat} (ha : a < 2) (hb : b < 6) (hik : i < k) (hk : k < 6) : rkF a b (ordF a b i) < rkF a b (ordF a b k) := by
  show rkN a b (ordN a b i) < rkN a b (ordN a b k)
  rw [rk_ord a ha b hb i (by omega), rk_ord a ha b hb k hk]; exact hik
theorem ordF_pos (a b i : Nat) : 1 ≤ (ordF a b i).val := (ordN_lt a b i).1
def SvIs (e : W64) (F : Nat → Prop) (v : Value) (w : World) : Prop := ∃ a c, v = .agg (encSV ⟨a, c, e⟩).toArray ∧ Sl encU 1 F w a c (wl e)
theorem SvIs.keepS (e : W64) : KeepS (SvIs e) := fun F v γ D w w' x hd ⟨a, c, h1, h2⟩ => ⟨a, c, h1, h2.keep x hd⟩
end Go.Lx
/- slices.SortFunc over pairs, by the library's contract, laid at this translation. -/
namespace Go.Proofs.YtncmjgmlnnenhaaGreatDoor
open Go Go.Lx Go.RowKit Go.Shelf Go.Lib Go.Sort
set_option linter.unusedSimpArgs false
set_option linter.unusedVariables false
set_option linter.unnecessarySimpa false
set_option maxRecDepth 100000
theorem swoPr : Sort.SWO (ltOf cmpPr) where
  irrefl x := by simp [ltOf, (cmpPr_is.eq x x).2 rfl]
  trans x y z h1 h2 := by
    simp only [ltOf, decide_eq_true_eq] at *
    exact cmpPr_is.tr _ _ _ h1 h2
  ntrans x y z h1 h2 := by
    simp only [ltOf, decide_eq_false_iff_not] at *
    intro h
    have a1 := cmpPr_is.anti x y
    have a2 := cmpPr_is.anti y z
    have a3 := cmpPr_is.anti x z
    by_cases e : cmpPr x y = 0
    · have := (cmpPr_is.eq x y).1 e; subst this; omega
    · by_cases e2 : cmpPr y z = 0
      · have := (cmpPr_is.eq y z).1 e2; subst this; omega
      · have := cmpPr_is.tr z y x (by omega) (by omega); omega
theorem cmpLaysPr (blk off size : Nat) (w : World) : CmpLays Tryz.prog 134 #[] encPr 2 cmpPr blk off size w :=
  fun m os dk _ x y => Calls.mono (ocmp_ok True (sortWorldK encPr 2 w blk off m dk os) x y) fun _ _ ⟨_, h1, h2, h3⟩ => ⟨by rw [h1, h2], ext_grow h3⟩
theorem sortpr_ok (D : Nat → Prop) (v : Value) (l : List Pr) (w : World) (ho : Own encPr 2 127 D w v l) (hl : l.length ≤ 1000000) :
    Ok Tryz.prog 133 #[v, .func (.func 134) #[] #[]] w fun v' w' => v' = .tuple #[] ∧ Bel False D w w' ∧ ∃ l' : List Pr, l'.Perm l ∧ l'.Pairwise (fun x y => cmpPr x y ≤ 0) ∧ Own encPr 2 127 D w' v l' := by
  rcases ho.row.2 with ⟨h1, h2⟩ | ⟨g, cap, cur, h1, h2, h3, _⟩
  · have : l = [] := List.eq_nil_of_length_eq_zero h2
    subst this h1
    have hcon := AnyF.slices_SortFunc_none Tryz.sortI0 none 0 (.func (.func 134) #[] #[]) w
    change Calls Tryz.prog 133 _ _ _ at hcon
    exact Calls.mono hcon fun e w' ⟨h1, h2⟩ => ⟨_, h1, rfl, by rw [h2]; exact Bel.refl _ _, [], List.Perm.refl _, List.Pairwise.nil, by rw [h2]; exact Own.nil _ _⟩
  · subst h1
    have hlt : g < w.heap.size := (Array.getElem?_eq_some_iff.1 h3).1
    have hcon := AnyQ.slices_SortFunc Tryz.sortI0 2 Tryz.isAgg127 Tryz.sizeOf127 encPr encPr_ok.len encPr_ok.one cmpPr swoPr 134 #[] g 0 cap l.toArray w Tryz.call134 (cmpLaysPr _ _ _ _) (own_holds encPr_ok ho) hlt (by simp; omega)
    change Calls Tryz.prog 133 _ _ _ at hcon
    simp only [List.size_toArray] at hcon
    refine Calls.mono hcon ?_
    rintro e w' ⟨he, d', n, os, hp, hs, rfl⟩
    obtain ⟨hsz, _, hperm⟩ := hp
    have hsz' : d'.size = l.length := by simpa using hsz
    obtain ⟨ho', hb⟩ := own_sorted encPr_ok (n := n) (os := os) ho hsz'
    refine ⟨_, he, rfl, hb.weak, d'.toList, ?_, ?_, ho'⟩
    · have e1 : d'.extract 0 l.length = d' := by rw [← hsz']; exact Array.extract_size
      have e2 : l.toArray.extract 0 l.length = l.toArray := by simp
      rw [e1, e2] at hperm
      exact hperm
    · rw [List.pairwise_iff_getElem]
      intro i j hi hj hij
      have := hs i j (Nat.zero_le _) hij (by simpa [hsz'] using hj)
      simp only [ltOf, decide_eq_false_iff_not] at this
      have hi' : i < d'.size := by simpa using hi
      have hj' : j < d'.size := by simpa using hj
      rw [getElem!_pos d' i hi', getElem!_pos d' j hj'] at this
      have h2 := cmpPr_is.anti d'[j] d'[i]
      simp only [Array.getElem_toList]
      omega
end Go.Proofs.YtncmjgmlnnenhaaGreatDoor
/- The bytes of numbers and sets, as the wire has them: plain law. Nothing of a program stands here. -/
namespace Go.Lx
open Go
set_option linter.unusedSimpArgs false
set_option linter.unusedVariables false
set_option linter.unnecessarySimpa false
def b7 (x : W64) : UInt8 := UInt8.ofNat (x &&& 127#64).toNat
def byteW (x : W64) (k : Nat) : UInt8 := UInt8.ofNat (x >>> (8 * k)).toNat
structure RevI (l m : List UInt8) (i : Nat) : Prop where
  len : m.length = l.length
  le : 2 * i ≤ l.length + 1
  get : ∀ k, m[k]? = if k < i ∨ (l.length ≤ k + i ∧ k < l.length) then l[l.length - 1 - k]? else l[k]?
theorem RevI.start (l : List UInt8) : RevI l l 0 := ⟨rfl, by omega, fun k => by
  rw [if_neg (by omega)]⟩
theorem RevI.fin {l m : List UInt8} {i : Nat} (h : RevI l m i) (hi : l.length ≤ 2 * i + 1) : m = l.reverse := by
  refine List.ext_getElem? fun k => ?_
  rw [h.get k]
  by_cases hk : k < l.length
  · rw [List.getElem?_reverse hk]
    split
    · rfl
    · have : k = l.length - 1 - k := by omega
      rw [← this]
  · have h1 : l.reverse[k]? = none := by simp; omega
    rw [h1]
    split
    · rename_i h2
      have := h.le
      have : l.length - 1 - k = 0 := by omega
      rcases Nat.eq_zero_or_pos l.length with h0 | h0
      · simp [List.length_eq_zero_iff.1 h0]
      · omega
    · simp; omega
theorem RevI.step {l m : List UInt8} {i j : Nat} (h : RevI l m i) (hj : l.length = i + j + 1) (hij : i < j) : RevI l ((m.set i (m.getD j 0)).set j (m.getD i 0)) (i + 1) := by
  have hm := h.len
  refine ⟨by simp [hm], by omega, fun k => ?_⟩
  have h1 : m.getD j 0 = l.getD j 0 := by simp only [List.getD]; rw [h.get j, if_neg (by omega)]
  have h2 : m.getD i 0 = l.getD i 0 := by simp only [List.getD]; rw [h.get i, if_neg (by omega)]
  have gi : l[i]? = some (l.getD i 0) := by simp [List.getD, show i < l.length by omega]
  have gj : l[j]? = some (l.getD j 0) := by simp [List.getD, show j < l.length by omega]
  rw [h1, h2, List.getElem?_set, List.getElem?_set]
  by_cases e1 : j = k
  · subst e1
    rw [if_pos rfl, if_pos (by simp; omega), if_pos (by omega), show l.length - 1 - j = i by omega, gi]
  · rw [if_neg e1]
    by_cases e2 : i = k
    · subst e2
      rw [if_pos rfl, if_pos (by omega), if_pos (by omega), show l.length - 1 - i = j by omega, gj]
    · rw [if_neg e2, h.get k]
      by_cases c : k < i ∨ (l.length ≤ k + i ∧ k < l.length)
      · rw [if_pos c, if_pos (by omega)]
      · rw [if_neg c]
        by_cases c2 : k < i + 1 ∨ (l.length ≤ k + (i + 1) ∧ k < l.length)
        · omega
        · rw [if_neg c2]
structure BytI (x : W64) (n k : Nat) (m : List UInt8) : Prop where
  len : m.length = n
  get : ∀ j, j < k → m[j]? = some (byteW x j)
theorem BytI.start (x : W64) (n : Nat) : BytI x n 0 (List.replicate n 0) := ⟨by simp, fun j h => absurd h (Nat.not_lt_zero _)⟩
theorem BytI.step {x : W64} {n k : Nat} {m : List UInt8} (h : BytI x n k m) (hk : k < n) : BytI x n (k + 1) (m.set k (byteW x k)) := by
  have hl := h.len
  refine ⟨by simp [hl], fun j hj => ?_⟩
  rw [List.getElem?_set]
  by_cases e : k = j
  · subst e; rw [if_pos rfl, if_pos (by omega)]
  · rw [if_neg e]; exact h.get j (by omega)
theorem BytI.fin {x : W64} {n k : Nat} {m : List UInt8} (h : BytI x n k m) (hk : n ≤ k) : m = (List.range n).map (byteW x) := by
  refine List.ext_getElem? fun j => ?_
  by_cases hj : j < n
  · rw [h.get j (by omega), List.getElem?_map, List.getElem?_range hj]; rfl
  · rw [List.getElem?_eq_none (by rw [h.len]; omega), List.getElem?_eq_none (by simp; omega)]
end Go.Lx
/- A writer of bytes in memory; the rules of its operations. Nothing of a program stands here. -/
namespace Go.Lx
open Go Go.RowKit
set_option linter.unusedSimpArgs false
set_option linter.unusedVariables false
set_option linter.unnecessarySimpa false
def Wr (T e : TypeId) (D : Nat → Prop) (w : World) (v : Value) (l : List UInt8) : Prop := ∃ b u, v = .pointer (some ⟨b, 0, none⟩) ∧ D b ∧ Box w b T [u] ∧ Own encB 1 e (fun g => D g ∧ g ≠ b) w u l
section
variable {T e : TypeId} {D D' : Nat → Prop} {γ : Prop} {w w' : World} {v : Value} {l : List UInt8}
theorem Wr.keepD (h : Wr T e D w v l) (x : Bel γ D' w w') (hd : ∀ g, g < w.heap.size → D g → ¬ D' g) : Wr T e D w' v l :=
  let ⟨b, u, h1, h2, h3, h4⟩ := h
  ⟨b, u, h1, h2, h3.keep x (hd b h3.lt h2), h4.keepD x fun g hg hD => hd g hg hD.1⟩
theorem Wr.ext (h : Wr T e D w v l) (x : Ext γ w w') : Wr T e D w' v l := h.keepD x fun _ _ _ => id
theorem Wr.mono (h : Wr T e D w v l) (hd : ∀ g, g < w.heap.size → D g → D' g) : Wr T e D' w v l :=
  let ⟨b, u, h1, h2, h3, h4⟩ := h
  ⟨b, u, h1, hd b h3.lt h2, h3, h4.mono fun g hg hD => ⟨hd g hg hD.1, hD.2⟩⟩
end
section
variable {P : Program} {fr : Fr} {w : World} {d : Option Nat} {t : TypeId} {ps : String} {af : Array Edge} {g : Option (Nat × Bool)} {x y z : Operand} {T U : TypeId}
def a31 (a : Int) : Int := ((BitVec.ofInt 64 a &&& 31#64).toNat : Int)
end
section
variable {rd : Option Nat} {P : Program} {n : Nat} {K : Fr → World → Prop} {fr : Fr} {w : World} {l : List UInt8} {T U e : TypeId} {x : Operand} {a : Option Addr} {c : Nat} {F : Nat → Prop}
end
def OwA {α : Type} (enc : α → List Value) (k : Nat) (e : TypeId) (w : World) (g : Nat) (v : Value) (l : List α) : Prop := Own enc k e (fun b => b = g) w v l ∧ v.ownBlock = some g ∧ g < w.heap.size
section
variable {α : Type} {enc : α → List Value} {k kc : Nat} {e : TypeId} {D : Nat → Prop} {w w' : World} {g : Nat} {v : Value} {l : List α} {c : Nat → Nat}
theorem OwA.lt (h : OwA enc k e w g v l) : g < w.heap.size := h.2.2
theorem OwA.col (h : OwA enc k e w g v l) (hc : c g = kc) : Own enc k e (fun b => c b = kc) w v l := h.1.mono fun b _ hb => by subst hb; exact hc
theorem OwA.blk (h : OwA enc k e w g v l) (hb : w'.heap[g]? = w.heap[g]?) : OwA enc k e w' g v l := by
  obtain ⟨⟨hr, hl⟩, ho, hlt⟩ := h
  have hlt' : g < w'.heap.size := by
    rw [Array.getElem?_eq_getElem hlt] at hb
    exact (Array.getElem?_eq_some_iff.1 hb).1
  refine ⟨⟨⟨hr.1, ?_⟩, hl⟩, ho, hlt'⟩
  rcases hr.2 with ⟨h1, h2⟩ | ⟨g', cap, cur, h1, h2, h3, h4⟩
  · exact .inl ⟨h1, h2⟩
  · have e1 : g' = g := by rw [h1] at ho; simpa [Value.ownBlock] using ho
    subst e1
    exact .inr ⟨g', cap, cur, h1, h2, hb.trans h3, h4⟩
end
end Go.Lx
/- The library's count of a word's bits. -/
namespace Go.Lx
open Go Go.RowKit
end Go.Lx
/- The bytes of sessions: plain law. Nothing of a program stands here. -/
namespace Go.Lx
open Go
set_option linter.unusedSimpArgs false
set_option linter.unusedVariables false
end Go.Lx
