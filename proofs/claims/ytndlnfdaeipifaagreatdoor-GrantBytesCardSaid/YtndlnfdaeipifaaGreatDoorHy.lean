/- Several texts in one file. -/
import Derived.Test.YtndlnfdaeipifaaGreatDoorRel
import Derived.Test.YtndlnfdaeipifaaGreatDoorSort
import Derived.Test.YtndlnfdaeipifaaGreatDoorRng
import Derived.Test.YtndlnfdaeipifaaGreatDoorWpr
import Derived.Test.YtndlnfdaeipifaaGreatDoorShelf
import Derived.Test.YtndlnfdaeipifaaGreatDoorPure11e
/- Orders and hierarchies as results; calls that make own slices in a region that draws. Nothing of a program stands here. -/
namespace Go.Lx
open Go Go.RowKit
set_option linter.unusedSimpArgs false
set_option linter.unusedVariables false
set_option linter.unnecessarySimpa false
theorem mem_comp {α : Type} [BEq α] [LawfulBEq α] (x : α) : ∀ (l acc : List α), x ∈ l.foldl compStep acc ↔ x ∈ acc ∨ x ∈ l
  | [], acc => by simp
  | y :: l, acc => by
    rw [List.foldl_cons, mem_comp x l]
    unfold compStep
    split
    · rename_i h
      have hy : y ∈ acc := List.mem_of_getLast? (by simpa using h)
      constructor
      · rintro (h1 | h1)
        · exact .inl h1
        · exact .inr (by simp [h1])
      · rintro (h1 | h1)
        · exact .inl h1
        · rcases List.mem_cons.1 h1 with rfl | h1
          · exact .inl hy
          · exact .inr h1
    · simp only [List.mem_append, List.mem_cons, List.not_mem_nil, or_false]
      exact or_assoc
theorem mem_compL {α : Type} [BEq α] [LawfulBEq α] (x : α) (l : List α) : x ∈ compL l ↔ x ∈ l := by
  unfold compL; rw [mem_comp]; simp
theorem comp_len {α : Type} [BEq α] : ∀ (l acc : List α), (l.foldl compStep acc).length ≤ acc.length + l.length
  | [], acc => by simp
  | y :: l, acc => by
    rw [List.foldl_cons]
    refine Nat.le_trans (comp_len l _) ?_
    unfold compStep
    split
    · simp
    · simp; omega
theorem compL_len {α : Type} [BEq α] (l : List α) : (compL l).length ≤ l.length := by
  have := comp_len l []
  simpa [compL] using this
theorem HOk.congr {o : OV} {L M : List Pr} (h : HOk o L) (hm : ∀ x, x ∈ L ↔ x ∈ M) (hl : L.length ≤ M.length) : HOk o M :=
  ⟨h.n, fun x => (h.ps x).trans (hm x), Nat.le_trans h.le hl, h.be.congr hm, h.ab.congr hm⟩
section
variable {α : Type} {enc : α → List Value} {s : Nat} {e : TypeId} {β : Prop} {P : Program} {ops : Array Oper} {o : Oper} {fr : Fr} {w : World} {c : Nat → Nat} {f : FuncId} {args : Array Value} {l : List α} {kc : Nat}
theorem OpC_own (hg : o.guard = none) (h : xop P fr w o = .ok (.enter f args) w) (hk : Ok P f args w fun v' w' => Own enc s e (Fsh w w') w' v' l ∧ Ext β w w') (hd : o.dst.isSome = true := by rfl) : OpC β kc P ops o fr w c (postOwn enc s e kc l) :=
  .inl ⟨by simp [Region.wanted, hg], .inr ⟨f, args, w, h, hd, hk.mono fun v' w' ⟨h1, x⟩ => ⟨newC c w kc, StepC.ext x fun _ hb => newC_old hb, h1.mono fun b _ hb => newC_new hb.1⟩⟩⟩
end
def KeepS (S : (Nat → Prop) → Value → World → Prop) : Prop := ∀ (F : Nat → Prop) (v : Value) (γ : Prop) (D : Nat → Prop) (w w' : World), Bel γ D w w' → (∀ b, b < w.heap.size → F b → ¬ D b) → S F v w → S F v w'
def postW (S : (Nat → Prop) → Value → World → Prop) : PostC := fun v w c => ∃ F, (∀ b, F b → b < w.heap.size ∧ c b = 0) ∧ S F v w
theorem postW_stable {S : (Nat → Prop) → Value → World → Prop} {kc : Nat} (hS : KeepS S) : StableC kc (postW S) := by
  intro v w c w' c' q hq hx ⟨F, hF, hr⟩
  refine ⟨F, fun b hb => ⟨Nat.lt_of_lt_of_le (hF b hb).1 hx.bel.size, (hx.col b (hF b hb).1).trans (hF b hb).2⟩, hS _ _ _ _ _ _ hx.bel (fun b _ hb hd => hd.1 ?_) hr⟩
  rw [← hd.2]; exact (hF b hb).2
theorem OpC_W {S : (Nat → Prop) → Value → World → Prop} {β : Prop} {k : Nat} {P : Program} {ops : Array Oper} {o : Oper} {fr : Fr} {w : World} {c : Nat → Nat} {f : FuncId} {args : Array Value} (hg : o.guard = none) (h : xop P fr w o = .ok (.enter f args) w) (hk : Ok P f args w fun v' w' => S (Fsh w w') v' w' ∧ Ext β w w') (hd : o.dst.isSome = true := by rfl) : OpC β k P ops o fr w c (postW S) :=
  .inl ⟨by simp [Region.wanted, hg], .inr ⟨f, args, w, h, hd, hk.mono fun _ w' ⟨a, b⟩ => ⟨newC c w 0, StepC.ext b fun _ hb => newC_old hb, Fsh w w', fun b hb => ⟨hb.2, newC_new hb.1⟩, a⟩⟩⟩
def OdRes (L : List Pr) (F : Nat → Prop) (v : Value) (w : World) : Prop := ∃ p o, v = .tuple #[.pointer (some ⟨p, 0, none⟩), .int .i64 0] ∧ OdAt F w p o ∧ HOk o L
def OdPtr (L : List Pr) (F : Nat → Prop) (v : Value) (w : World) : Prop := ∃ p o, v = .pointer (some ⟨p, 0, none⟩) ∧ OdAt F w p o ∧ HOk o L
theorem OdRes.keepS (L : List Pr) : KeepS (OdRes L) := fun F v γ D w w' x hd ⟨p, o, h1, h2, h3⟩ => ⟨p, o, h1, h2.keep x hd, h3⟩
theorem OdPtr.keepS (L : List Pr) : KeepS (OdPtr L) := fun F v γ D w w' x hd ⟨p, o, h1, h2, h3⟩ => ⟨p, o, h1, h2.keep x hd, h3⟩
def HyIs (w : World) (v : Value) (L : List Pr) : Prop := ∃ ph po o, v = .pointer (some ⟨ph, 0, none⟩) ∧ At w ph 0 [.pointer (some ⟨po, 0, none⟩)] ∧ OdAt (Lt w.heap.size) w po o ∧ HOk o L
theorem HyIs.ext {γ : Prop} {w w' : World} {v : Value} {L : List Pr} (h : HyIs w v L) (x : Ext γ w w') : HyIs w' v L :=
  let ⟨ph, po, o, h1, h2, h3, h4⟩ := h
  ⟨ph, po, o, h1, h2.keep x id, (h3.ext x).mono fun _ hb _ => hb, h4⟩
theorem HyIs.congr {w : World} {v : Value} {L M : List Pr} (h : HyIs w v L) (hm : ∀ x, x ∈ L ↔ x ∈ M) (hl : L.length ≤ M.length) : HyIs w v M :=
  let ⟨ph, po, o, h1, h2, h3, h4⟩ := h
  ⟨ph, po, o, h1, h2, h3, h4.congr hm hl⟩
theorem Rd.keepS {α : Type} (enc : α → List Value) (k : Nat) (p : List α → Prop) : KeepS fun F v w => ∃ l, Rd enc k F w v l ∧ p l := fun F v γ D w w' x hd ⟨l, h1, h2⟩ => ⟨l, h1.keep x hd, h2⟩
def LkP (L : List Pr) (x : Pr) (M : List Pr) : Prop := x ∈ L ∧ M = L ∨ x ∉ L ∧ InsP L x M
def LkRes (L : List Pr) (x : Pr) (F : Nat → Prop) (v : Value) (w : World) : Prop := ∃ u M e, v = .tuple #[u, .int .i64 e] ∧ Rd encPr 2 F w u M ∧ LkP L x M
theorem LkRes.keepS (L : List Pr) (x : Pr) : KeepS (LkRes L x) := fun F v γ D w w' x hd ⟨u, M, e, h1, h2, h3⟩ => ⟨u, M, e, h1, h2.keep x hd, h3⟩
theorem LkP.ok {L M : List Pr} {x : Pr} {ρ : Fin 64 → Nat} (h : LkOk L ρ) (hp : LkP L x M) (hr : ρ x.1 < ρ x.2) (hq : 1 ≤ x.1.val ∧ 1 ≤ x.2.val) : LkOk M ρ ∧ M.length ≤ L.length + 1 := by
  rcases hp with ⟨_, rfl⟩ | ⟨hn, hi⟩
  · exact ⟨h, by omega⟩
  · exact ⟨h.ins hi hn hr hq, by rw [hi.len]; omega⟩
def HyRes (L : List Pr) (v : Value) (w : World) : Prop := ∃ u, v = .tuple #[u, .int .i64 0] ∧ HyIs w u L
section
variable {P : Program} {fr : Fr} {w : World} {d : Option Nat} {t : TypeId} {ps : String} {af : Array Edge} {g : Option (Nat × Bool)}
theorem o_convU {T U : TypeId} {x : Operand} {a : W64} {n : Nat} (hP : P.underlying T = some (.int .u64)) (hP' : P.underlying U = some (.int .i64)) (hx : ev fr x = u64 a) (hn : a.toNat = n) (hl : n < 9223372036854775808) : xop P fr w ⟨d, .convert T U x, t, ps, af, g⟩ = .ok (.value (.int .i64 (n : Int))) w := by
  have h := o_conv (w := w) (d := d) (t := t) (ps := ps) (af := af) (g := g) (k' := .i64) hP hP' hx
  have e : IntKind.i64.wrap (a.toNat : Int) = (n : Int) := by rw [hn]; exact wrap_in (by unfold I64; omega)
  rw [e] at h
  exact h
end
section
variable {α : Type} {enc : α → List Value} {k : Nat} {F : Nat → Prop} {P : Program} {fr : Fr} {w : World} {d : Option Nat} {t : TypeId} {ps : String} {af : Array Edge} {g : Option (Nat × Bool)} {a : Option Addr} {c i m : Nat} {l : List α} {y : α} {T : TypeId} {x z : Operand}
theorem o_faE {fs : Array Field} {f n : Nat} {G : Field} (hP : P.underlying T = some (.struct fs)) (hf : fs[f]? = some G) (hs : ∀ w, (sizeOf G.type).run P w = .ok (n + 1) w) (hr : Sl enc k F w a c l) (hx : ev fr x = .pointer (elp a m)) (hi : l[i]? = some y) :
    xop P fr w ⟨d, .fieldAddr T x f, t, ps, af, g⟩ = .ok (.value (.pointer (elp a (m + G.offset)))) w := by
  obtain ⟨b, off, rfl, _, _, _⟩ := hr.el i _ hi
  rw [elp_some] at hx ⊢
  rw [← Nat.add_assoc]
  exact o_fa hP hf hs hx
theorem o_ldE {j : Nat} {v : Value} (ha : ∀ w, (isAgg T).run P w = .ok false w) (hr : Sl enc k F w a c l) (hx : ev fr x = .pointer (elp a (i * k + j))) (hi : l[i]? = some y) (hv : (enc y)[j]? = some v) :
    xop P fr w ⟨d, .load T x, t, ps, af, g⟩ = .ok (.value v) w := by
  obtain ⟨b, off, rfl, _, h3, _⟩ := hr.el i _ hi
  rw [elp_some] at hx
  have h := h3 j v hv
  rw [Nat.add_assoc] at h
  exact o_load1 ha hx h
theorem o_ldES {j s : Nat} {cs : List Value} (ha : ∀ w, (isAgg T).run P w = .ok true w) (hs : ∀ w, (sizeOf T).run P w = .ok s w) (hr : Sl enc k F w a c l) (hx : ev fr x = .pointer (elp a (i * k + j))) (hi : l[i]? = some y) (hv : ((enc y).drop j).take s = cs) (hc : cs.length = s) :
    xop P fr w ⟨d, .load T x, t, ps, af, g⟩ = .ok (.value (.agg cs.toArray)) w := by
  obtain ⟨b, off, rfl, _, h3, _⟩ := hr.el i _ hi
  rw [elp_some] at hx
  subst hv
  have h := h3.sub j s
  rw [Nat.add_assoc] at h
  exact o_loadS ha hs hx h hc
end
theorem o_slfrom2 {P : Program} {fr : Fr} {w : World} {d : Option Nat} {t e T : TypeId} {ps : String} {af : Array Edge} {g : Option (Nat × Bool)} {x y : Operand} {a : Option Addr} {m c s j : Nat} (hP : P.underlying T = some (.slice e)) (hs : ∀ w, (sizeOf e).run P w = .ok s w) (hx : ev fr x = .slice a m c) (hj : ev fr y = .int .i64 (j : Int)) (hl : j ≤ m) (hc : m ≤ c) :
    xop P fr w ⟨d, .slice T x (some y) none none, t, ps, af, g⟩ = .ok (.value (.slice (if c = j then a else elp a (j * s)) (m - j) (c - j))) w := by
  rcases Nat.lt_or_ge j c with h | h
  · rw [if_neg (by omega)]; exact o_sfromO hP hs hx hj hl h
  · obtain rfl : c = j := by omega
    obtain rfl : m = c := by omega
    rw [if_pos rfl]
    simp [xop, execOp, hx, hj, Instr.slice, Instr.sliceAt, Instr.sliceBounds, Instr.sliceBound, asIntOf, run_underlying hP, hs, elp]
theorem o_convV {P : Program} {fr : Fr} {w : World} {d : Option Nat} {t : TypeId} {ps : String} {af : Array Edge} {g : Option (Nat × Bool)} {T U : TypeId} {x : Operand} {n : Nat} (hP : P.underlying T = some (.int .i64)) (hP' : P.underlying U = some (.int .u64)) (hx : ev fr x = .int .i64 (n : Int)) (hl : n < 18446744073709551616) : xop P fr w ⟨d, .convert T U x, t, ps, af, g⟩ = .ok (.value (u64 (BitVec.ofNat 64 n))) w := by
  have h := o_conv (w := w) (d := d) (t := t) (ps := ps) (af := af) (g := g) (k' := .u64) hP hP' hx
  rw [wrapU'] at h
  exact h
def SvIs (e : W64) (F : Nat → Prop) (v : Value) (w : World) : Prop := ∃ a c, v = .agg (encSV ⟨a, c, e⟩).toArray ∧ Sl encU 1 F w a c (wl e)
theorem SvIs.keepS (e : W64) : KeepS (SvIs e) := fun F v γ D w w' x hd ⟨a, c, h1, h2⟩ => ⟨a, c, h1, h2.keep x hd⟩
theorem o_convB8 {P : Program} {fr : Fr} {w : World} {d : Option Nat} {t : TypeId} {ps : String} {af : Array Edge} {g : Option (Nat × Bool)} {T U : TypeId} {x : Operand} {b : UInt8} (hP : P.underlying T = some (.int .u8)) (hP' : P.underlying U = some (.int .u64)) (hx : ev fr x = .int .u8 (b.toNat : Int)) : xop P fr w ⟨d, .convert T U x, t, ps, af, g⟩ = .ok (.value (u64 (BitVec.ofNat 64 b.toNat))) w := by
  have h := o_conv (w := w) (d := d) (t := t) (ps := ps) (af := af) (g := g) (k' := .u64) hP hP' hx
  rw [wrapU'] at h
  exact h
end Go.Lx
/- slices.SortFunc over pairs, by the library's contract, laid at this translation. -/
namespace Go.Proofs.YtndlnfdaeipifaaGreatDoor
open Go Go.Lx Go.RowKit Go.Shelf Go.Lib Go.Sort
set_option linter.unusedSimpArgs false
set_option linter.unusedVariables false
set_option linter.unnecessarySimpa false
set_option maxRecDepth 100000
theorem swoPr : Sort.SWO (ltOf cmpPr) where
  irrefl x := by simp [ltOf, (cmpPr_is.eq x x).2 rfl]
  trans x y z h1 h2 := by
    simp only [ltOf, decide_eq_true_eq] at *
    exact cmpPr_is.tr _ _ _ h1 h2
  ntrans x y z h1 h2 := by
    simp only [ltOf, decide_eq_false_iff_not] at *
    intro h
    have a1 := cmpPr_is.anti x y
    have a2 := cmpPr_is.anti y z
    have a3 := cmpPr_is.anti x z
    by_cases e : cmpPr x y = 0
    · have := (cmpPr_is.eq x y).1 e; subst this; omega
    · by_cases e2 : cmpPr y z = 0
      · have := (cmpPr_is.eq y z).1 e2; subst this; omega
      · have := cmpPr_is.tr z y x (by omega) (by omega); omega
theorem cmpLaysPr (blk off size : Nat) (w : World) : CmpLays Tryz.prog 138 #[] encPr 2 cmpPr blk off size w :=
  fun m os dk _ x y => Calls.mono (ocmp_ok True (sortWorldK encPr 2 w blk off m dk os) x y) fun _ _ ⟨_, h1, h2, h3⟩ => ⟨by rw [h1, h2], ext_grow h3⟩
theorem sortpr_ok (D : Nat → Prop) (v : Value) (l : List Pr) (w : World) (ho : Own encPr 2 99 D w v l) (hl : l.length ≤ 1000000) :
    Ok Tryz.prog 137 #[v, .func (.func 138) #[] #[]] w fun v' w' => v' = .tuple #[] ∧ Bel False D w w' ∧ ∃ l' : List Pr, l'.Perm l ∧ l'.Pairwise (fun x y => cmpPr x y ≤ 0) ∧ Own encPr 2 99 D w' v l' := by
  rcases ho.row.2 with ⟨h1, h2⟩ | ⟨g, cap, cur, h1, h2, h3, _⟩
  · have : l = [] := List.eq_nil_of_length_eq_zero h2
    subst this h1
    have hcon := AnyF.slices_SortFunc_none Tryz.sortI0 none 0 (.func (.func 138) #[] #[]) w
    change Calls Tryz.prog 137 _ _ _ at hcon
    exact Calls.mono hcon fun e w' ⟨h1, h2⟩ => ⟨_, h1, rfl, by rw [h2]; exact Bel.refl _ _, [], List.Perm.refl _, List.Pairwise.nil, by rw [h2]; exact Own.nil _ _⟩
  · subst h1
    have hlt : g < w.heap.size := (Array.getElem?_eq_some_iff.1 h3).1
    have hcon := AnyQ.slices_SortFunc Tryz.sortI0 2 Tryz.isAgg99 Tryz.sizeOf99 encPr encPr_ok.len encPr_ok.one cmpPr swoPr 138 #[] g 0 cap l.toArray w Tryz.call138 (cmpLaysPr _ _ _ _) (own_holds encPr_ok ho) hlt (by simp; omega)
    change Calls Tryz.prog 137 _ _ _ at hcon
    simp only [List.size_toArray] at hcon
    refine Calls.mono hcon ?_
    rintro e w' ⟨he, d', n, os, hp, hs, rfl⟩
    obtain ⟨hsz, _, hperm⟩ := hp
    have hsz' : d'.size = l.length := by simpa using hsz
    obtain ⟨ho', hb⟩ := own_sorted encPr_ok (n := n) (os := os) ho hsz'
    refine ⟨_, he, rfl, hb.weak, d'.toList, ?_, ?_, ho'⟩
    · have e1 : d'.extract 0 l.length = d' := by rw [← hsz']; exact Array.extract_size
      have e2 : l.toArray.extract 0 l.length = l.toArray := by simp
      rw [e1, e2] at hperm
      exact hperm
    · rw [List.pairwise_iff_getElem]
      intro i j hi hj hij
      have := hs i j (Nat.zero_le _) hij (by simpa [hsz'] using hj)
      simp only [ltOf, decide_eq_false_iff_not] at this
      have hi' : i < d'.size := by simpa using hi
      have hj' : j < d'.size := by simpa using hj
      rw [getElem!_pos d' i hi', getElem!_pos d' j hj'] at this
      have h2 := cmpPr_is.anti d'[j] d'[i]
      simp only [Array.getElem_toList]
      omega
end Go.Proofs.YtndlnfdaeipifaaGreatDoor
/- Books of grants: what the program and the reference make of them. Nothing of a program stands here. -/
namespace Go.Lx
open Go
set_option linter.unusedSimpArgs false
set_option linter.unusedVariables false
set_option linter.unnecessarySimpa false
structure Ent where
  r : Int
  p : Perm
  deriving DecidableEq
def encE (e : Ent) : List Value := .int .i64 e.r :: encP e.p
theorem encE_ok : EncOk encE 4 := ⟨by decide, fun _ => rfl, fun x u hu => by
  simp [encE, encP] at hu
  rcases hu with rfl | rfl | rfl | rfl <;> rfl⟩
def ez : Ent := ⟨0, pz⟩
def cmpI (a b : Int) : Int := if a < b then -1 else if b < a then 1 else 0
def cmpE (a b : Ent) : Int := if a.r != b.r then cmpI a.r b.r else cmpM a.p b.p
theorem cmpI_is : IsCmp cmpI := by
  refine ⟨fun a b => ?_, fun a b => ?_, fun a b c => ?_⟩ <;> unfold cmpI <;> (repeat' split) <;> omega
def Ve (e : Ent) : Prop := 1 ≤ e.r ∧ e.r ≤ 63 ∧ Vp e.p
abbrev VE := { e : Ent // Ve e }
def keyE (e : VE) : Int × VP := (e.1.r, ⟨e.1.p, e.2.2.2⟩)
theorem cmpE_lex (x y : VE) : cmpE x.1 y.1 = lex cmpI (fun a b : VP => cmpM a.1 b.1) (keyE x) (keyE y) := by
  show (if x.1.r != y.1.r then cmpI x.1.r y.1.r else cmpM x.1.p y.1.p) = if cmpI x.1.r y.1.r != 0 then cmpI x.1.r y.1.r else cmpM x.1.p y.1.p
  have e := cmpI_is.eq x.1.r y.1.r
  by_cases h : x.1.r = y.1.r
  · rw [if_neg (by simpa using h), if_neg (by simpa using e.2 h)]
  · rw [if_pos (by simpa using h), if_pos (by simpa using fun q => h (e.1 q))]
theorem cmpE_is : IsCmp fun a b : VE => cmpE a.1 b.1 := by
  have h := (lex_is cmpI_is cmpV_is).map keyE (fun a b h => by
    have h1 := congrArg Prod.fst h
    have h2 := congrArg Prod.snd h
    apply Subtype.ext
    obtain ⟨⟨r, p⟩, ha⟩ := a
    obtain ⟨⟨s, q⟩, hb⟩ := b
    simp only [keyE, Subtype.mk.injEq] at h1 h2
    show (⟨r, p⟩ : Ent) = ⟨s, q⟩
    rw [h1, h2])
  have e : (fun a b : VE => cmpE a.1 b.1) = fun a b => lex cmpI (fun a b : VP => cmpM a.1 b.1) (keyE a) (keyE b) := by
    funext a b; exact cmpE_lex a b
  rw [e]; exact h
theorem cmpE_eq {a b : Ent} (ha : Ve a) (hb : Ve b) : cmpE a b = 0 ↔ a = b := by
  rw [cmpE_is.eq ⟨a, ha⟩ ⟨b, hb⟩]; simp
theorem cmpE_anti {a b : Ent} (ha : Ve a) (hb : Ve b) : cmpE b a = - cmpE a b := cmpE_is.anti ⟨a, ha⟩ ⟨b, hb⟩
theorem cmpE_tr {a b c : Ent} (ha : Ve a) (hb : Ve b) (hc : Ve c) (h : cmpE a b < 0) (k : cmpE b c < 0) : cmpE a c < 0 := cmpE_is.tr ⟨a, ha⟩ ⟨b, hb⟩ ⟨c, hc⟩ h k
structure OkG (m : List Ent) : Prop where
  asc : m.Pairwise (fun x y => cmpE x y < 0)
  ve : ∀ e ∈ m, Ve e
  len : m.length ≤ 1000
theorem OkG.nil : OkG [] := ⟨List.Pairwise.nil, by simp, by simp⟩
theorem OkG.nodup {m : List Ent} (h : OkG m) : m.Nodup := by
  refine h.asc.imp_of_mem ?_
  intro a b ha hb hab e
  subst e
  have := (cmpE_eq (h.ve a ha) (h.ve a ha)).2 rfl
  omega
theorem asc_get {m : List Ent} (h : m.Pairwise (fun x y => cmpE x y < 0)) {i j : Nat} (hij : i < j) (hj : j < m.length) : cmpE (m.getD i ez) (m.getD j ez) < 0 := by
  have := List.pairwise_iff_getElem.1 h i j (by omega) hj hij
  simpa [List.getD, show i < m.length by omega, hj] using this
structure BsG (m : List Ent) (x : Ent) (i j : Nat) : Prop where
  le : i ≤ j
  len : j ≤ m.length
  low : ∀ t, t < i → cmpE (m.getD t ez) x < 0
  up : ∀ t, j ≤ t → t < m.length → 0 ≤ cmpE (m.getD t ez) x
theorem BsG.start (m : List Ent) (x : Ent) : BsG m x 0 m.length := ⟨Nat.zero_le _, Nat.le_refl _, fun t h => by omega, fun t h h2 => by omega⟩
section
variable {m : List Ent} {x : Ent} {i j : Nat} (h : BsG m x i j) (hm : OkG m) (hx : Ve x)
include h hm hx
theorem BsG.lo {k : Nat} (h1 : i ≤ k) (h2 : k < j) (hk : cmpE (m.getD k ez) x < 0) : BsG m x (k + 1) j := by
  have hl := h.len
  refine ⟨by omega, h.len, fun t ht => ?_, h.up⟩
  rcases Nat.lt_or_ge t k with h3 | h3
  · exact cmpE_tr (hm.ve _ (gm (by omega))) (hm.ve _ (gm (by omega))) hx (asc_get hm.asc h3 (by omega)) hk
  · obtain rfl : t = k := by omega
    exact hk
theorem BsG.hi {k : Nat} (h1 : i ≤ k) (h2 : k < j) (hk : ¬ cmpE (m.getD k ez) x < 0) : BsG m x i k := by
  have hl := h.len
  refine ⟨h1, by omega, h.low, fun t ht hl2 => ?_⟩
  rcases Nat.lt_or_ge k t with h3 | h3
  · rcases Int.lt_or_le (cmpE (m.getD t ez) x) 0 with h4 | h4
    · exact absurd (cmpE_tr (hm.ve _ (gm (by omega))) (hm.ve _ (gm (by omega))) hx (asc_get hm.asc h3 (by omega)) h4) hk
    · exact h4
  · obtain rfl : t = k := by omega
    omega
end
theorem BsG.uniq {m : List Ent} {x : Ent} {i j : Nat} (h : BsG m x i i) (k : BsG m x j j) : i = j := by
  have h1 := h.len
  have h2 := k.len
  rcases Nat.lt_trichotomy i j with q | q | q
  · have a := k.low i q
    have b := h.up i (Nat.le_refl _) (by omega)
    omega
  · exact q
  · have a := h.low j q
    have b := k.up j (Nat.le_refl _) (by omega)
    omega
def cntG (m : List Ent) (x : Ent) : Nat := m.findIdx fun y => decide (0 ≤ cmpE y x)
theorem cnt_bs {m : List Ent} {x : Ent} (hm : OkG m) (hx : Ve x) : BsG m x (cntG m x) (cntG m x) := by
  have hl : cntG m x ≤ m.length := List.findIdx_le_length
  refine ⟨Nat.le_refl _, hl, fun t ht => ?_, fun t ht hlt => ?_⟩
  · have h := List.not_of_lt_findIdx ht
    have hlt : t < m.length := by omega
    have e : m.getD t ez = m[t] := by simp [List.getD, hlt]
    rw [e]
    simpa using h
  · have hc : cntG m x < m.length := by omega
    have h0 : 0 ≤ cmpE (m.getD (cntG m x) ez) x := by
      have h := List.findIdx_getElem (w := hc)
      have e : m.getD (cntG m x) ez = m[cntG m x] := by simp [List.getD, hc]
      rw [e]
      exact of_decide_eq_true h
    rcases Nat.lt_or_ge (cntG m x) t with h1 | h1
    · rcases Int.lt_or_le (cmpE (m.getD t ez) x) 0 with h2 | h2
      · have := cmpE_tr (hm.ve _ (gm hc)) (hm.ve _ (gm hlt)) hx (asc_get hm.asc h1 hlt) h2
        omega
      · exact h2
    · obtain rfl : t = cntG m x := by omega
      exact h0
theorem getD_ex {m : List Ent} {e : Ent} (h : e ∈ m) : ∃ t, t < m.length ∧ m.getD t ez = e := by
  obtain ⟨t, ht, rfl⟩ := List.getElem_of_mem h
  exact ⟨t, ht, by simp [List.getD, ht]⟩
theorem BsG.fin {m : List Ent} {x : Ent} {i : Nat} (h : BsG m x i i) (hm : OkG m) (hx : Ve x) : (decide ((i : Int) < (m.length : Int)) && (cmpE (m.getD i ez) x == 0)) = decide (x ∈ m) := by
  rw [Bool.eq_iff_iff, Bool.and_eq_true, decide_eq_true_iff, decide_eq_true_iff, beq_iff_eq]
  constructor
  · rintro ⟨h1, h2⟩
    have h1' : i < m.length := by omega
    have := (cmpE_eq (hm.ve _ (gm (z := ez) h1')) hx).1 h2
    rw [← this]; exact gm h1'
  · intro hin
    obtain ⟨t, ht, e⟩ := getD_ex hin
    have h0 : cmpE (m.getD t ez) x = 0 := by rw [e]; exact (cmpE_eq hx hx).2 rfl
    rcases Nat.lt_trichotomy t i with h2 | h2 | h2
    · have := h.low t h2; omega
    · subst h2; exact ⟨by omega, h0⟩
    · have h3 := h.up i (Nat.le_refl _) (by omega)
      have h4 := asc_get hm.asc h2 ht
      rw [e] at h4
      omega
theorem insGo_at {f : Ent → Ent → Int} {p : Ent} : ∀ {m : List Ent} {i : Nat}, i ≤ m.length → (∀ t, t < i → ¬ f p (m.getD t ez) < 0) → (i < m.length → f p (m.getD i ez) < 0) → insGo f p m = m.take i ++ [p] ++ m.drop i
  | [], i, h, _, _ => by
    obtain rfl : i = 0 := by simpa using h
    rfl
  | x :: r, 0, _, _, h2 => by
    have := h2 (by simp)
    rw [insGo, if_pos (by simpa using this)]; rfl
  | x :: r, i + 1, h, h1, h2 => by
    have h0 := h1 0 (by omega)
    rw [insGo, if_neg (by simpa using h0)]
    rw [insGo_at (i := i) (by simpa using h) (fun t ht => by simpa using h1 (t + 1) (by omega)) (fun hl => by simpa using h2 (by simp; omega))]
    rfl
theorem BsG.ins {m : List Ent} {x : Ent} {i : Nat} (h : BsG m x i i) (hm : OkG m) (hx : Ve x) (hn : x ∉ m) : m.take i ++ [x] ++ m.drop i = insGo cmpE x m := by
  refine (insGo_at h.len (fun t ht => ?_) (fun hl => ?_)).symm
  · have h1 := h.low t ht
    have hl := h.len
    have h2 := cmpE_anti (hm.ve _ (gm (z := ez) (show t < m.length by omega))) hx
    omega
  · have h1 := h.up i (Nat.le_refl _) hl
    have h2 := cmpE_anti (hm.ve _ (gm (z := ez) hl)) hx
    have h3 : cmpE (m.getD i ez) x ≠ 0 := fun e => hn (by rw [← (cmpE_eq (hm.ve _ (gm (z := ez) hl)) hx).1 e]; exact gm hl)
    omega
theorem insGo_lenG {α : Type} {f : α → α → Int} {p : α} : ∀ (m : List α), (insGo f p m).length = m.length + 1
  | [] => rfl
  | x :: r => by
    rw [insGo]; split
    · rfl
    · simp [insGo_lenG r]
theorem insGo_pwE {x : Ent} {m : List Ent} (hm : OkG m) (hx : Ve x) (hn : x ∉ m) : (insGo cmpE x m).Pairwise (fun x y => cmpE x y < 0) := by
  have ha := hm.asc
  have hv := hm.ve
  clear hm
  induction m with
  | nil => simp [insGo]
  | cons y r ih =>
    have hy := hv y (by simp)
    rw [insGo]
    rw [List.pairwise_cons] at ha
    split
    · rename_i hlt
      rw [List.pairwise_cons, List.pairwise_cons]
      refine ⟨fun z hz => ?_, ha⟩
      rcases List.mem_cons.1 hz with rfl | hz
      · exact hlt
      · exact cmpE_tr hx hy (hv z (by simp [hz])) hlt (ha.1 z hz)
    · rename_i hge
      rw [List.pairwise_cons]
      refine ⟨fun z hz => ?_, ih (fun h => hn (by simp [h])) ha.2 (fun e he => hv e (by simp [he]))⟩
      rcases insGo_mem.1 hz with rfl | hz
      · have h1 := cmpE_anti hy hx
        have h2 : cmpE y z ≠ 0 := fun e => hn (by rw [← (cmpE_eq hy hx).1 e]; simp)
        omega
      · exact ha.1 z hz
def grantR (m : List Ent) (e : Ent) : List Ent × Int := if e.r < 1 ∨ 63 < e.r then (m, 1) else if checkS e.p ≠ 0 then (m, checkS e.p) else if e ∈ m then (m, 5) else if 1000 ≤ m.length then (m, 14) else (insGo cmpE e m, 0)
def dropR (m : List Ent) (e : Ent) : List Ent × Int := if e.r < 1 ∨ 63 < e.r then (m, 1) else if e ∉ m then (m, 4) else (m.filter (· != e), 0)
theorem OkG.grant {m : List Ent} (h : OkG m) {e : Ent} (he : e.p.ok) : OkG (grantR m e).1 := by
  unfold grantR
  split
  · exact h
  split
  · exact h
  split
  · exact h
  split
  · exact h
  · rename_i h1 h2 h3 h4
    have hv : Ve e := ⟨by omega, by omega, he, by omega⟩
    exact ⟨insGo_pwE h hv h3, fun x hx => (insGo_mem.1 hx).elim (fun q => q ▸ hv) (h.ve x), by rw [insGo_lenG]; omega⟩
theorem OkG.drop {m : List Ent} (h : OkG m) (e : Ent) : OkG (dropR m e).1 := by
  unfold dropR
  split
  · exact h
  split
  · exact h
  · exact ⟨h.asc.filter _, fun x hx => h.ve x (List.mem_filter.1 hx).1, Nat.le_trans (List.length_filter_le _ _) h.len⟩
theorem ixE {m : List Ent} {e : Ent} : decide (ixOf (fun y => y == e) m < 0) = decide (e ∉ m) := by
  have h := ixOf_ge (fun y : Ent => y == e) m
  rw [Bool.eq_iff_iff] at h ⊢
  simp only [decide_eq_true_iff, List.any_eq_true, beq_iff_eq] at h ⊢
  constructor
  · intro h1 h2
    have := h.2 ⟨e, h2, rfl⟩
    omega
  · intro h1
    rcases Int.lt_or_le (ixOf (fun y : Ent => y == e) m) 0 with h2 | h2
    · exact h2
    · obtain ⟨y, hy, he⟩ := h.1 h2
      exact absurd (he ▸ hy) h1
theorem ixE_some {m : List Ent} {e : Ent} (h : 0 ≤ ixOf (fun y => y == e) m) : ∃ i : Nat, ixOf (fun y => y == e) m = i ∧ i < m.length ∧ m.getD i ez = e := by
  unfold ixOf at h ⊢
  cases hf : m.findIdx? (fun y => y == e) with
  | none => rw [hf] at h; simp at h
  | some i =>
    obtain ⟨hi, h1, _⟩ := List.findIdx?_eq_some_iff_getElem.1 hf
    refine ⟨i, rfl, hi, ?_⟩
    simpa [List.getD, hi] using h1
theorem filter_ne {e : Ent} : ∀ {m : List Ent}, e ∉ m → m.filter (· != e) = m := fun {m} h =>
  List.filter_eq_self.2 fun x hx => by
    rw [bne_iff_ne]; rintro rfl; exact h hx
theorem del_filter {e : Ent} : ∀ {m : List Ent} {i : Nat}, m.Nodup → i < m.length → m.getD i ez = e → m.take i ++ m.drop (i + 1) = m.filter (· != e)
  | [], i, _, h, _ => by simp at h
  | x :: r, 0, hn, _, he => by
    obtain rfl : x = e := by simpa using he
    have h1 := (List.nodup_cons.1 hn).1
    rw [List.filter_cons]
    simp [filter_ne h1]
  | x :: r, i + 1, hn, h, he => by
    have h2 : i < r.length := by simpa using h
    have h3 : r.getD i ez = e := by simpa using he
    have hx : x ≠ e := fun q => (List.nodup_cons.1 hn).1 (by rw [q, ← h3]; exact gm h2)
    rw [List.filter_cons, if_pos (by simpa using hx), ← del_filter (List.nodup_cons.1 hn).2 h2 h3]
    rfl
def lessE (a b : Ent) : Bool := decide (cmpE a b < 0)
def insD (m : List Ent) (e : Ent) (k : Nat) : Bool := (m.take k).any (lessE e)
def insO (m : List Ent) (e : Ent) (k : Nat) : List Ent := if insD m e k then insGo cmpE e (m.take k) else m.take k
theorem insGo_snoc {f : Ent → Ent → Int} {p x : Ent} : ∀ (l : List Ent), insGo f p (l ++ [x]) = if l.any (fun y => decide (f p y < 0)) then insGo f p l ++ [x] else l ++ (if f p x < 0 then [p, x] else [x, p])
  | [] => by simp [insGo]
  | y :: l => by
    rw [List.cons_append, insGo, insGo, List.any_cons]
    by_cases h : f p y < 0
    · simp [h]
    · simp only [h, if_false, decide_false, Bool.false_or]
      rw [insGo_snoc l]
      split <;> simp
theorem insGo_none {f : Ent → Ent → Int} {p : Ent} : ∀ (l : List Ent), l.any (fun y => decide (f p y < 0)) = false → insGo f p l = l ++ [p]
  | [], _ => rfl
  | y :: l, h => by
    rw [List.any_cons, Bool.or_eq_false_iff] at h
    rw [insGo, if_neg (by simpa using h.1), insGo_none l h.2]; rfl
theorem takeE {m : List Ent} {k : Nat} (h : k < m.length) : m.take (k + 1) = m.take k ++ [m.getD k ez] := by
  rw [List.take_succ_eq_append_getElem h]; simp [List.getD, h]
theorem insD_succ {m : List Ent} {e : Ent} {k : Nat} (h : k < m.length) : insD m e (k + 1) = (insD m e k || lessE e (m.getD k ez)) := by
  unfold insD; rw [takeE h, List.any_append]; simp
theorem insO_len (m : List Ent) (e : Ent) (k : Nat) : (insO m e k).length ≤ m.length + 1 := by
  unfold insO
  split
  · rw [insGo_lenG, List.length_take]; omega
  · rw [List.length_take]; omega
theorem ins_yes {m : List Ent} {e : Ent} {k : Nat} (h : k < m.length) (hd : insD m e k = false) (hl : lessE e (m.getD k ez) = true) : insO m e (k + 1) = insO m e k ++ [e] ++ [m.getD k ez] ∧ insD m e (k + 1) = true := by
  have h1 : insD m e (k + 1) = true := by rw [insD_succ h, hl, Bool.or_true]
  refine ⟨?_, h1⟩
  unfold insO
  rw [if_pos h1, hd, takeE h, insGo_snoc]
  have h2 : (m.take k).any (fun y => decide (cmpE e y < 0)) = false := hd
  rw [h2, if_pos (of_decide_eq_true hl)]
  simp
theorem ins_no {m : List Ent} {e : Ent} {k : Nat} (h : k < m.length) (hc : (!insD m e k && lessE e (m.getD k ez)) = false) : insO m e (k + 1) = insO m e k ++ [m.getD k ez] ∧ insD m e (k + 1) = insD m e k := by
  cases hd : insD m e k with
  | true =>
    have h1 : insD m e (k + 1) = true := by rw [insD_succ h, hd, Bool.true_or]
    refine ⟨?_, h1⟩
    unfold insO
    rw [if_pos h1, hd, takeE h, insGo_snoc]
    have h2 : (m.take k).any (fun y => decide (cmpE e y < 0)) = true := hd
    rw [h2]; simp
  | false =>
    have hl : lessE e (m.getD k ez) = false := by rw [hd] at hc; simpa using hc
    have h1 : insD m e (k + 1) = false := by rw [insD_succ h, hd, hl]; rfl
    refine ⟨?_, h1⟩
    unfold insO
    rw [h1, hd, takeE h]
    simp
theorem ins_end {m : List Ent} {e : Ent} {k : Nat} (h : m.length ≤ k) : insGo cmpE e m = if insD m e k then insO m e k else insO m e k ++ [e] := by
  have ht : m.take k = m := List.take_of_length_le h
  unfold insO
  cases hd : insD m e k with
  | true => simp [ht]
  | false =>
    unfold insD at hd
    rw [ht] at hd ⊢
    simp [insGo_none m hd]
def covW (m : List Ent) (a s : Str) : W64 := m.foldl (fun w e => if coversS e.p a s then w ||| oneW e.r.toNat else w) 0
theorem covW_yes {m : List Ent} {a s : Str} {k : Nat} (h : k < m.length) (hc : coversS (m.getD k ez).p a s = true) : covW (m.take (k + 1)) a s = covW (m.take k) a s ||| oneW (m.getD k ez).r.toNat := by
  unfold covW; rw [takeE h, List.foldl_append]
  generalize m.getD k ez = y at hc ⊢
  simp [hc]
theorem covW_no {m : List Ent} {a s : Str} {k : Nat} (h : k < m.length) (hc : coversS (m.getD k ez).p a s = false) : covW (m.take (k + 1)) a s = covW (m.take k) a s := by
  unfold covW; rw [takeE h, List.foldl_append]
  generalize m.getD k ez = y at hc ⊢
  simp [hc]
section
variable {m : List Ent} {k : Nat} {s : W64} {r : Int}
end
def needB (imp : Int → Int → Bool) (x y : Ent) : Bool := !(x == y) && (x.r == y.r || imp x.r y.r) && impliesS y.p x.p
def redL (imp : Int → Int → Bool) (m l : List Ent) : List Ent := l.filter fun x => m.any (needB imp x)
section
variable {imp : Int → Int → Bool} {m l : List Ent} {k : Nat}
theorem red_yes (h : k < l.length) (hc : m.any (needB imp (l.getD k ez)) = true) : redL imp m (l.take (k + 1)) = redL imp m (l.take k) ++ [l.getD k ez] := by
  unfold redL; rw [takeE h, List.filter_append]; simp only [List.filter_cons, hc]; simp
theorem red_no (h : k < l.length) (hc : m.any (needB imp (l.getD k ez)) = false) : redL imp m (l.take (k + 1)) = redL imp m (l.take k) := by
  unfold redL; rw [takeE h, List.filter_append]; simp only [List.filter_cons, hc]; simp
theorem red_len (imp : Int → Int → Bool) (m l : List Ent) : (redL imp m l).length ≤ l.length := List.length_filter_le _ _
end
theorem anyE_succ {f : Ent → Bool} {m : List Ent} {j : Nat} (h : j < m.length) : (m.take (j + 1)).any f = ((m.take j).any f || f (m.getD j ez)) := by
  rw [takeE h, List.any_append]; simp
end Go.Lx
