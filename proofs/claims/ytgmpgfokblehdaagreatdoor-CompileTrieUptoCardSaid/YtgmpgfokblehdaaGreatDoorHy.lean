/- Several texts in one file. -/
import Derived.Test.YtgmpgfokblehdaaGreatDoorPr
import Derived.Test.YtgmpgfokblehdaaGreatDoorPerm0
set_option linter.unusedSimpArgs false
set_option linter.unusedVariables false
set_option linter.unnecessarySimpa false
/- Orders and hierarchies as results; calls that make own slices in a region that draws. Nothing of a program stands here. -/
namespace Go.Lx
open Go Go.RowKit
theorem mem_comp {α : Type} [BEq α] [LawfulBEq α] (x : α) : ∀ (l acc : List α), x ∈ l.foldl compStep acc ↔ x ∈ acc ∨ x ∈ l
 | [], acc => by simp
 | y :: l, acc => by
  rw [List.foldl_cons, mem_comp x l]
  unfold compStep
  split
  ·rename_i h
   have hy : y ∈ acc := List.mem_of_getLast? (by simpa using h)
   constructor
   ·rintro (h1 | h1)
    ·exact .inl h1
    ·exact .inr (by simp [h1])
   ·rintro (h1 | h1)
    ·exact .inl h1
    ·rcases List.mem_cons.1 h1 with rfl | h1
     ·exact .inl hy
     ·exact .inr h1
  ·simp only [List.mem_append, List.mem_cons, List.not_mem_nil, or_false]
   exact or_assoc
theorem mem_compL {α : Type} [BEq α] [LawfulBEq α] (x : α) (l : List α) : x ∈ compL l ↔ x ∈ l := by
 unfold compL; rw [mem_comp]; simp
theorem comp_len {α : Type} [BEq α] : ∀ (l acc : List α), (l.foldl compStep acc).length ≤ acc.length + l.length
 | [], acc => by simp
 | y :: l, acc => by
  rw [List.foldl_cons]
  refine Nat.le_trans (comp_len l _) ?_
  unfold compStep
  split
  ·simp
  ·simp; omega
theorem compL_len {α : Type} [BEq α] (l : List α) : (compL l).length ≤ l.length := by
 have := comp_len l []
 simpa [compL] using this
theorem HOk.congr {o : OV} {L M : List Pr} (h : HOk o L) (hm : ∀ x, x ∈ L ↔ x ∈ M) (hl : L.length ≤ M.length) : HOk o M :=
 ⟨h.n, fun x => (h.ps x).trans (hm x), Nat.le_trans h.le hl, h.be.congr hm, h.ab.congr hm⟩
section
variable {α : Type} {enc : α → List Value} {s : Nat} {e : TypeId} {β : Prop} {P : Program} {ops : Array Oper} {o : Oper} {fr : Fr} {w : World} {c : Nat → Nat} {f : FuncId} {args : Array Value} {l : List α} {kc : Nat}
theorem Vm (hg : o.guard = none) (h : xop P fr w o = .ok (.enter f args) w) (hk : Ok P f args w fun v' w' => Own enc s e (Fsh w w') w' v' l ∧ Ext β w w') (hd : o.dst.isSome = true := by rfl) : OpC β kc P ops o fr w c (postOwn enc s e kc l) :=
 .inl ⟨by simp [Region.wanted, hg], .inr ⟨f, args, w, h, hd, hk.mono fun v' w' ⟨h1, x⟩ => ⟨newC c w kc, StepC.ext x fun _ hb => ZQ hb, h1.mono fun b _ hb => Z6 hb.1⟩⟩⟩
end
def KeepS (S : (Nat → Prop) → Value → World → Prop) : Prop := ∀ (F : Nat → Prop) (v : Value) (γ : Prop) (D : Nat → Prop) (w w' : World), Bel γ D w w' → (∀ b, b < w.heap.size → F b → ¬ D b) → S F v w → S F v w'
def postW (S : (Nat → Prop) → Value → World → Prop) : PostC := fun v w c => ∃ F, (∀ b, F b → b < w.heap.size ∧ c b = 0) ∧ S F v w
theorem ZA {S : (Nat → Prop) → Value → World → Prop} {kc : Nat} (hS : KeepS S) : StableC kc (postW S) := by
 intro v w c w' c' q hq hx ⟨F, hF, hr⟩
 refine ⟨F, fun b hb => ⟨Nat.lt_of_lt_of_le (hF b hb).1 hx.bel.size, (hx.col b (hF b hb).1).trans (hF b hb).2⟩, hS _ _ _ _ _ _ hx.bel (fun b _ hb hd => hd.1 ?_) hr⟩
 rw [← hd.2]; exact (hF b hb).2
theorem Yt {S : (Nat → Prop) → Value → World → Prop} {β : Prop} {k : Nat} {P : Program} {ops : Array Oper} {o : Oper} {fr : Fr} {w : World} {c : Nat → Nat} {f : FuncId} {args : Array Value} (hg : o.guard = none) (h : xop P fr w o = .ok (.enter f args) w) (hk : Ok P f args w fun v' w' => S (Fsh w w') v' w' ∧ Ext β w w') (hd : o.dst.isSome = true := by rfl) : OpC β k P ops o fr w c (postW S) :=
 .inl ⟨by simp [Region.wanted, hg], .inr ⟨f, args, w, h, hd, hk.mono fun _ w' ⟨a, b⟩ => ⟨newC c w 0, StepC.ext b fun _ hb => ZQ hb, Fsh w w', fun b hb => ⟨hb.2, Z6 hb.1⟩, a⟩⟩⟩
def OdRes (L : List Pr) (F : Nat → Prop) (v : Value) (w : World) : Prop := ∃ p o, v = .tuple #[.pointer (some ⟨p, 0, none⟩), .int .i64 0] ∧ OdAt F w p o ∧ HOk o L
def OdPtr (L : List Pr) (F : Nat → Prop) (v : Value) (w : World) : Prop := ∃ p o, v = .pointer (some ⟨p, 0, none⟩) ∧ OdAt F w p o ∧ HOk o L
theorem OdRes.keepS (L : List Pr) : KeepS (OdRes L) := fun F v γ D w w' x hd ⟨p, o, h1, h2, h3⟩ => ⟨p, o, h1, h2.keep x hd, h3⟩
theorem OdPtr.keepS (L : List Pr) : KeepS (OdPtr L) := fun F v γ D w w' x hd ⟨p, o, h1, h2, h3⟩ => ⟨p, o, h1, h2.keep x hd, h3⟩
def HyIs (w : World) (v : Value) (L : List Pr) : Prop := ∃ ph po o, v = .pointer (some ⟨ph, 0, none⟩) ∧ At w ph 0 [.pointer (some ⟨po, 0, none⟩)] ∧ OdAt (Lt w.heap.size) w po o ∧ HOk o L
theorem HyIs.ext {γ : Prop} {w w' : World} {v : Value} {L : List Pr} (h : HyIs w v L) (x : Ext γ w w') : HyIs w' v L :=
 let ⟨ph, po, o, h1, h2, h3, h4⟩ := h
 ⟨ph, po, o, h1, h2.keep x id, (h3.ext x).mono fun _ hb _ => hb, h4⟩
theorem HyIs.congr {w : World} {v : Value} {L M : List Pr} (h : HyIs w v L) (hm : ∀ x, x ∈ L ↔ x ∈ M) (hl : L.length ≤ M.length) : HyIs w v M :=
 let ⟨ph, po, o, h1, h2, h3, h4⟩ := h
 ⟨ph, po, o, h1, h2, h3, h4.congr hm hl⟩
theorem OpC_W2 {S : (Nat → Prop) → Value → World → Prop} {β : Prop} {k : Nat} {P : Program} {ops : Array Oper} {o : Oper} {fr : Fr} {w : World} {c : Nat → Nat} {f : FuncId} {args : Array Value} (G : Nat → Prop) (hG : ∀ b, G b → b < w.heap.size ∧ c b = 0) (hg : o.guard = none) (h : xop P fr w o = .ok (.enter f args) w) (hk : Ok P f args w fun v' w' => S (fun b => G b ∨ Fsh w w' b) v' w' ∧ Ext β w w') (hd : o.dst.isSome = true := by rfl) : OpC β k P ops o fr w c (postW S) :=
 .inl ⟨by simp [Region.wanted, hg], .inr ⟨f, args, w, h, hd, hk.mono fun _ w' ⟨a, x⟩ => ⟨newC c w 0, StepC.ext x fun _ hb => ZQ hb, _, fun b hb => by
  rcases hb with hb | hb
  ·exact ⟨Nat.lt_of_lt_of_le (hG b hb).1 x.size, (ZQ (hG b hb).1).trans (hG b hb).2⟩
  ·exact ⟨hb.2, Z6 hb.1⟩, a⟩⟩⟩
theorem Rd.keepS {α : Type} (enc : α → List Value) (k : Nat) (p : List α → Prop) : KeepS fun F v w => ∃ l, Rd enc k F w v l ∧ p l := fun F v γ D w w' x hd ⟨l, h1, h2⟩ => ⟨l, h1.keep x hd, h2⟩
def LkP (L : List Pr) (x : Pr) (M : List Pr) : Prop := x ∈ L ∧ M = L ∨ x ∉ L ∧ InsP L x M
def LkRes (L : List Pr) (x : Pr) (F : Nat → Prop) (v : Value) (w : World) : Prop := ∃ u M e, v = .tuple #[u, .int .i64 e] ∧ Rd encPr 2 F w u M ∧ LkP L x M
theorem LkRes.keepS (L : List Pr) (x : Pr) : KeepS (LkRes L x) := fun F v γ D w w' x hd ⟨u, M, e, h1, h2, h3⟩ => ⟨u, M, e, h1, h2.keep x hd, h3⟩
theorem LkP.ok {L M : List Pr} {x : Pr} {ρ : Fin 64 → Nat} (h : LkOk L ρ) (hp : LkP L x M) (hr : ρ x.1 < ρ x.2) (hq : 1 ≤ x.1.val ∧ 1 ≤ x.2.val) : LkOk M ρ ∧ M.length ≤ L.length + 1 := by
 rcases hp with ⟨_, rfl⟩ | ⟨hn, hi⟩
 ·exact ⟨h, by omega⟩
 ·exact ⟨h.ins hi hn hr hq, by rw [hi.len]; omega⟩
def HyRes (L : List Pr) (v : Value) (w : World) : Prop := ∃ u, v = .tuple #[u, .int .i64 0] ∧ HyIs w u L
section
variable {P : Program} {fr : Fr} {w : World} {d : Option Nat} {t : TypeId} {ps : String} {af : Array Edge} {g : Option (Nat × Bool)}
theorem o_convU {T U : TypeId} {x : Operand} {a : W64} {n : Nat} (hP : P.underlying T = some (.int .u64)) (hP' : P.underlying U = some (.int .i64)) (hx : ev fr x = u64 a) (hn : a.toNat = n) (hl : n < 9223372036854775808) : xop P fr w ⟨d, .convert T U x, t, ps, af, g⟩ = .ok (.value (.int .i64 (n : Int))) w := by
 have h := o_conv (w := w) (d := d) (t := t) (ps := ps) (af := af) (g := g) (k' := .i64) hP hP' hx
 have e : IntKind.i64.wrap (a.toNat : Int) = (n : Int) := by rw [hn]; exact JM (by unfold I64; omega)
 rw [e] at h
 exact h
end
section
variable {α : Type} {enc : α → List Value} {k : Nat} {F : Nat → Prop} {P : Program} {fr : Fr} {w : World} {d : Option Nat} {t : TypeId} {ps : String} {af : Array Edge} {g : Option (Nat × Bool)} {a : Option Addr} {c i m : Nat} {l : List α} {y : α} {T : TypeId} {x z : Operand}
theorem o_faE {fs : Array Field} {f n : Nat} {G : Field} (hP : P.underlying T = some (.struct fs)) (hf : fs[f]? = some G) (hs : ∀ w, (sizeOf G.type).run P w = .ok (n + 1) w) (hr : Sl enc k F w a c l) (hx : ev fr x = .pointer (elp a m)) (hi : l[i]? = some y) :
  xop P fr w ⟨d, .fieldAddr T x f, t, ps, af, g⟩ = .ok (.value (.pointer (elp a (m + G.offset)))) w := by
 obtain ⟨b, off, rfl, _, _, _⟩ := hr.el i _ hi
 rw [ZY] at hx ⊢
 rw [← Nat.add_assoc]
 exact Qy hP hf hs hx
theorem o_ldE {j : Nat} {v : Value} (ha : ∀ w, (isAgg T).run P w = .ok false w) (hr : Sl enc k F w a c l) (hx : ev fr x = .pointer (elp a (i * k + j))) (hi : l[i]? = some y) (hv : (enc y)[j]? = some v) :
  xop P fr w ⟨d, .load T x, t, ps, af, g⟩ = .ok (.value v) w := by
 obtain ⟨b, off, rfl, _, h3, _⟩ := hr.el i _ hi
 rw [ZY] at hx
 have h := h3 j v hv
 rw [Nat.add_assoc] at h
 exact Qm ha hx h
theorem o_ldES {j s : Nat} {cs : List Value} (ha : ∀ w, (isAgg T).run P w = .ok true w) (hs : ∀ w, (sizeOf T).run P w = .ok s w) (hr : Sl enc k F w a c l) (hx : ev fr x = .pointer (elp a (i * k + j))) (hi : l[i]? = some y) (hv : ((enc y).drop j).take s = cs) (hc : cs.length = s) :
  xop P fr w ⟨d, .load T x, t, ps, af, g⟩ = .ok (.value (.agg cs.toArray)) w := by
 obtain ⟨b, off, rfl, _, h3, _⟩ := hr.el i _ hi
 rw [ZY] at hx
 subst hv
 have h := h3.sub j s
 rw [Nat.add_assoc] at h
 exact QF ha hs hx h hc
end
theorem Zr {P : Program} {fr : Fr} {w : World} {d : Option Nat} {t e T : TypeId} {ps : String} {af : Array Edge} {g : Option (Nat × Bool)} {x y : Operand} {a : Option Addr} {m c s j : Nat} (hP : P.underlying T = some (.slice e)) (hs : ∀ w, (sizeOf e).run P w = .ok s w) (hx : ev fr x = .slice a m c) (hj : ev fr y = .int .i64 (j : Int)) (hl : j ≤ m) (hc : m ≤ c) :
  xop P fr w ⟨d, .slice T x (some y) none none, t, ps, af, g⟩ = .ok (.value (.slice (if c = j then a else elp a (j * s)) (m - j) (c - j))) w := by
 rcases Nat.lt_or_ge j c with h | h
 ·rw [if_neg (by omega)]; exact JZ hP hs hx hj hl h
 ·obtain rfl : c = j := by omega
  obtain rfl : m = c := by omega
  rw [if_pos rfl]
  simp [xop, execOp, hx, hj, Instr.slice, Instr.sliceAt, Instr.sliceBounds, Instr.sliceBound, asIntOf, run_underlying hP, hs, elp]
theorem o_convV {P : Program} {fr : Fr} {w : World} {d : Option Nat} {t : TypeId} {ps : String} {af : Array Edge} {g : Option (Nat × Bool)} {T U : TypeId} {x : Operand} {n : Nat} (hP : P.underlying T = some (.int .i64)) (hP' : P.underlying U = some (.int .u64)) (hx : ev fr x = .int .i64 (n : Int)) (hl : n < 18446744073709551616) : xop P fr w ⟨d, .convert T U x, t, ps, af, g⟩ = .ok (.value (u64 (BitVec.ofNat 64 n))) w := by
 have h := o_conv (w := w) (d := d) (t := t) (ps := ps) (af := af) (g := g) (k' := .u64) hP hP' hx
 rw [wrapU'] at h
 exact h
def SvIs (e : W64) (F : Nat → Prop) (v : Value) (w : World) : Prop := ∃ a c, v = .agg (encSV ⟨a, c, e⟩).toArray ∧ Sl encU 1 F w a c (wl e)
theorem SvIs.keepS (e : W64) : KeepS (SvIs e) := fun F v γ D w w' x hd ⟨a, c, h1, h2⟩ => ⟨a, c, h1, h2.keep x hd⟩
def postBoxK (w0 : World) (T : TypeId) (cs : List Value) (kc : Nat) : PostC := fun v w c => ∃ b, v = .pointer (some ⟨b, 0, none⟩) ∧ w0.heap.size ≤ b ∧ Box w b T cs ∧ c b = kc
theorem ZI {w0 : World} {T : TypeId} {cs : List Value} {kc : Nat} : StableC kc (postBoxK w0 T cs kc) := by
 rintro v w c w' c' q hq hx ⟨b, h1, h2, h3, h4⟩
 exact ⟨b, h1, h2, h3.keep hx.bel fun hd => hq.elim hd.1 (fun h => h (by rw [← hd.2]; exact h4)), (hx.col b h3.lt).trans h4⟩
theorem Vn {β : Prop} {P : Program} {fr : Fr} {w w0 : World} {c : Nat → Nat} {ops : Array Oper} {kc : Nat} {T : TypeId} {z : Value} {o : Oper} (hw : w0.heap.size ≤ w.heap.size) (hg : o.guard = none) (h : xop P fr w o = .ok (.value (.pointer (some ⟨w.heap.size, 0, none⟩))) (w.alloc (.cells z.cells T))) (hd : o.dst.isSome = true := by rfl) : OpC β kc P ops o fr w c (postBoxK w0 T z.cells.toList kc) :=
 .inl ⟨by simp [Region.wanted, hg], .inl ⟨_, _, newC c w kc, .inl ⟨h, hd⟩, StepC.ext (Ext.alloc _ _) fun _ hb => ZQ hb, w.heap.size, rfl, hw, Box.alloc w z.cells T, Z6 (Nat.le_refl _)⟩⟩
theorem JP {β : Prop} {P : Program} {fr : Fr} {w w0 : World} {c : Nat → Nat} {ops : Array Oper} {ty : TypeId} {pos : String} {after : Array Edge} {kc s b m : Nat} {U T : TypeId} {y : Operand} {cs : List Value} {v : Value} (h0 : kc ≠ 0) (hs : ∀ w, (sizeOf U).run P w = .ok m w) (hx : ev fr (.tmp s) = .pointer (some ⟨b, 0, none⟩)) (hy : ev fr y = v) (hn : w0.heap.size ≤ b) (hb : Box w b T cs) (hc : c b = kc) (hv : v.cells.toList.length = m) (h1 : oneL v.cells.toList = true) (hle : v.cells.toList.length = cs.length) :
  OpC β kc P ops ⟨none, .store U (.tmp s) y, ty, pos, after, none⟩ fr w c (postBoxK w0 T v.cells.toList kc) := by
 have h := OpC_storeW (β := β) (ops := ops) (ty := ty) (pos := pos) (after := after) (x := .tmp s) h0 hs hx hy hb hc hv h1 hle
 have hl : lkV ⟨none, .store U (.tmp s) y, ty, pos, after, none⟩ fr = .pointer (some ⟨b, 0, none⟩) := hx
 rcases h with ⟨hw, ⟨u, w', c', hr, hx2, hS⟩ | ⟨f, args, w1, hr, hd, _⟩⟩ | ⟨hw, _⟩
 ·refine .inl ⟨hw, .inl ⟨lkV ⟨none, .store U (.tmp s) y, ty, pos, after, none⟩ fr, w', c', ?_, hx2, ?_⟩⟩
  ·rcases hr with ⟨_, hd⟩ | ⟨hr, _⟩
   ·cases hd
   ·exact .inr ⟨hr, rfl⟩
  ·rw [hl]
   exact ⟨b, rfl, hn, hS.1, hS.2⟩
 ·cases hd
 ·cases hw
end Go.Lx
/- Books of grants: what the program and the reference make of them. Nothing of a program stands here. -/
namespace Go.Lx
open Go
structure Ent where
 r : Int
 p : Perm
 deriving DecidableEq
def encE (e : Ent) : List Value := .int .i64 e.r :: encP e.p
theorem QZ : EncOk encE 4 := ⟨by decide, fun _ => rfl, fun x u hu => by
 simp [encE, encP] at hu
 rcases hu with rfl | rfl | rfl | rfl <;> rfl⟩
def ez : Ent := ⟨0, pz⟩
def cmpI (a b : Int) : Int := if a < b then -1 else if b < a then 1 else 0
def cmpE (a b : Ent) : Int := if a.r != b.r then cmpI a.r b.r else cmpM a.p b.p
theorem cmpI_is : IsCmp cmpI := by
 refine ⟨fun a b => ?_, fun a b => ?_, fun a b c => ?_⟩ <;> unfold cmpI <;> (repeat' split) <;> omega
def Ve (e : Ent) : Prop := 1 ≤ e.r ∧ e.r ≤ 63 ∧ Vp e.p
abbrev VE := { e : Ent // Ve e }
def keyE (e : VE) : Int × VP := (e.1.r, ⟨e.1.p, e.2.2.2⟩)
theorem cmpE_lex (x y : VE) : cmpE x.1 y.1 = lex cmpI (fun a b : VP => cmpM a.1 b.1) (keyE x) (keyE y) := by
 show (if x.1.r != y.1.r then cmpI x.1.r y.1.r else cmpM x.1.p y.1.p) = if cmpI x.1.r y.1.r != 0 then cmpI x.1.r y.1.r else cmpM x.1.p y.1.p
 have e := cmpI_is.eq x.1.r y.1.r
 by_cases h : x.1.r = y.1.r
 ·rw [if_neg (by simpa using h), if_neg (by simpa using e.2 h)]
 ·rw [if_pos (by simpa using h), if_pos (by simpa using fun q => h (e.1 q))]
theorem cmpE_is : IsCmp fun a b : VE => cmpE a.1 b.1 := by
 have h := (lex_is cmpI_is cmpV_is).map keyE (fun a b h => by
  have h1 := congrArg Prod.fst h
  have h2 := congrArg Prod.snd h
  apply Subtype.ext
  obtain ⟨⟨r, p⟩, ha⟩ := a
  obtain ⟨⟨s, q⟩, hb⟩ := b
  simp only [keyE, Subtype.mk.injEq] at h1 h2
  show (⟨r, p⟩ : Ent) = ⟨s, q⟩
  rw [h1, h2])
 have e : (fun a b : VE => cmpE a.1 b.1) = fun a b => lex cmpI (fun a b : VP => cmpM a.1 b.1) (keyE a) (keyE b) := by
  funext a b; exact cmpE_lex a b
 rw [e]; exact h
theorem YE {a b : Ent} (ha : Ve a) (hb : Ve b) : cmpE a b = 0 ↔ a = b := by
 rw [cmpE_is.eq ⟨a, ha⟩ ⟨b, hb⟩]; simp
theorem YF {a b : Ent} (ha : Ve a) (hb : Ve b) : cmpE b a = - cmpE a b := cmpE_is.anti ⟨a, ha⟩ ⟨b, hb⟩
theorem cmpE_tr {a b c : Ent} (ha : Ve a) (hb : Ve b) (hc : Ve c) (h : cmpE a b < 0) (k : cmpE b c < 0) : cmpE a c < 0 := cmpE_is.tr ⟨a, ha⟩ ⟨b, hb⟩ ⟨c, hc⟩ h k
structure OkG (m : List Ent) : Prop where
 asc : m.Pairwise (fun x y => cmpE x y < 0)
 ve : ∀ e ∈ m, Ve e
 len : m.length ≤ 1000
theorem OkG.nil : OkG [] := ⟨List.Pairwise.nil, by simp, by simp⟩
theorem OkG.nodup {m : List Ent} (h : OkG m) : m.Nodup := by
 refine h.asc.imp_of_mem ?_
 intro a b ha hb hab e
 subst e
 have := (YE (h.ve a ha) (h.ve a ha)).2 rfl
 omega
theorem asc_get {m : List Ent} (h : m.Pairwise (fun x y => cmpE x y < 0)) {i j : Nat} (hij : i < j) (hj : j < m.length) : cmpE (m.getD i ez) (m.getD j ez) < 0 := by
 have := List.pairwise_iff_getElem.1 h i j (by omega) hj hij
 simpa [List.getD, show i < m.length by omega, hj] using this
structure BsG (m : List Ent) (x : Ent) (i j : Nat) : Prop where
 le : i ≤ j
 len : j ≤ m.length
 low : ∀ t, t < i → cmpE (m.getD t ez) x < 0
 up : ∀ t, j ≤ t → t < m.length → 0 ≤ cmpE (m.getD t ez) x
theorem BsG.start (m : List Ent) (x : Ent) : BsG m x 0 m.length := ⟨Nat.zero_le _, Nat.le_refl _, fun t h => by omega, fun t h h2 => by omega⟩
section
variable {m : List Ent} {x : Ent} {i j : Nat} (h : BsG m x i j) (hm : OkG m) (hx : Ve x)
include h hm hx
theorem BsG.lo {k : Nat} (h1 : i ≤ k) (h2 : k < j) (hk : cmpE (m.getD k ez) x < 0) : BsG m x (k + 1) j := by
 have hl := h.len
 refine ⟨by omega, h.len, fun t ht => ?_, h.up⟩
 rcases Nat.lt_or_ge t k with h3 | h3
 ·exact cmpE_tr (hm.ve _ (gm (by omega))) (hm.ve _ (gm (by omega))) hx (asc_get hm.asc h3 (by omega)) hk
 ·obtain rfl : t = k := by omega
  exact hk
theorem BsG.hi {k : Nat} (h1 : i ≤ k) (h2 : k < j) (hk : ¬ cmpE (m.getD k ez) x < 0) : BsG m x i k := by
 have hl := h.len
 refine ⟨h1, by omega, h.low, fun t ht hl2 => ?_⟩
 rcases Nat.lt_or_ge k t with h3 | h3
 ·rcases Int.lt_or_le (cmpE (m.getD t ez) x) 0 with h4 | h4
  ·exact absurd (cmpE_tr (hm.ve _ (gm (by omega))) (hm.ve _ (gm (by omega))) hx (asc_get hm.asc h3 (by omega)) h4) hk
  ·exact h4
 ·obtain rfl : t = k := by omega
  omega
end
theorem BsG.uniq {m : List Ent} {x : Ent} {i j : Nat} (h : BsG m x i i) (k : BsG m x j j) : i = j := by
 have h1 := h.len
 have h2 := k.len
 rcases Nat.lt_trichotomy i j with q | q | q
 ·have a := k.low i q
  have b := h.up i (Nat.le_refl _) (by omega)
  omega
 ·exact q
 ·have a := h.low j q
  have b := k.up j (Nat.le_refl _) (by omega)
  omega
def cntG (m : List Ent) (x : Ent) : Nat := m.findIdx fun y => decide (0 ≤ cmpE y x)
theorem cnt_bs {m : List Ent} {x : Ent} (hm : OkG m) (hx : Ve x) : BsG m x (cntG m x) (cntG m x) := by
 have hl : cntG m x ≤ m.length := List.findIdx_le_length
 refine ⟨Nat.le_refl _, hl, fun t ht => ?_, fun t ht hlt => ?_⟩
 ·have h := List.not_of_lt_findIdx ht
  have hlt : t < m.length := by omega
  have e : m.getD t ez = m[t] := by simp [List.getD, hlt]
  rw [e]
  simpa using h
 ·have hc : cntG m x < m.length := by omega
  have h0 : 0 ≤ cmpE (m.getD (cntG m x) ez) x := by
   have h := List.findIdx_getElem (w := hc)
   have e : m.getD (cntG m x) ez = m[cntG m x] := by simp [List.getD, hc]
   rw [e]
   exact of_decide_eq_true h
  rcases Nat.lt_or_ge (cntG m x) t with h1 | h1
  ·rcases Int.lt_or_le (cmpE (m.getD t ez) x) 0 with h2 | h2
   ·have := cmpE_tr (hm.ve _ (gm hc)) (hm.ve _ (gm hlt)) hx (asc_get hm.asc h1 hlt) h2
    omega
   ·exact h2
  ·obtain rfl : t = cntG m x := by omega
   exact h0
theorem getD_ex {m : List Ent} {e : Ent} (h : e ∈ m) : ∃ t, t < m.length ∧ m.getD t ez = e := by
 obtain ⟨t, ht, rfl⟩ := List.getElem_of_mem h
 exact ⟨t, ht, by simp [List.getD, ht]⟩
theorem BsG.fin {m : List Ent} {x : Ent} {i : Nat} (h : BsG m x i i) (hm : OkG m) (hx : Ve x) : (decide ((i : Int) < (m.length : Int)) && (cmpE (m.getD i ez) x == 0)) = decide (x ∈ m) := by
 rw [Bool.eq_iff_iff, Bool.and_eq_true, decide_eq_true_iff, decide_eq_true_iff, beq_iff_eq]
 constructor
 ·rintro ⟨h1, h2⟩
  have h1' : i < m.length := by omega
  have := (YE (hm.ve _ (gm (z := ez) h1')) hx).1 h2
  rw [← this]; exact gm h1'
 ·intro hin
  obtain ⟨t, ht, e⟩ := getD_ex hin
  have h0 : cmpE (m.getD t ez) x = 0 := by rw [e]; exact (YE hx hx).2 rfl
  rcases Nat.lt_trichotomy t i with h2 | h2 | h2
  ·have := h.low t h2; omega
  ·subst h2; exact ⟨by omega, h0⟩
  ·have h3 := h.up i (Nat.le_refl _) (by omega)
   have h4 := asc_get hm.asc h2 ht
   rw [e] at h4
   omega
theorem insGo_at {f : Ent → Ent → Int} {p : Ent} : ∀ {m : List Ent} {i : Nat}, i ≤ m.length → (∀ t, t < i → ¬ f p (m.getD t ez) < 0) → (i < m.length → f p (m.getD i ez) < 0) → insGo f p m = m.take i ++ [p] ++ m.drop i
 | [], i, h, _, _ => by
  obtain rfl : i = 0 := by simpa using h
  rfl
 | x :: r, 0, _, _, h2 => by
  have := h2 (by simp)
  rw [insGo, if_pos (by simpa using this)]; rfl
 | x :: r, i + 1, h, h1, h2 => by
  have h0 := h1 0 (by omega)
  rw [insGo, if_neg (by simpa using h0)]
  rw [insGo_at (i := i) (by simpa using h) (fun t ht => by simpa using h1 (t + 1) (by omega)) (fun hl => by simpa using h2 (by simp; omega))]
  rfl
theorem BsG.ins {m : List Ent} {x : Ent} {i : Nat} (h : BsG m x i i) (hm : OkG m) (hx : Ve x) (hn : x ∉ m) : m.take i ++ [x] ++ m.drop i = insGo cmpE x m := by
 refine (insGo_at h.len (fun t ht => ?_) (fun hl => ?_)).symm
 ·have h1 := h.low t ht
  have hl := h.len
  have h2 := YF (hm.ve _ (gm (z := ez) (show t < m.length by omega))) hx
  omega
 ·have h1 := h.up i (Nat.le_refl _) hl
  have h2 := YF (hm.ve _ (gm (z := ez) hl)) hx
  have h3 : cmpE (m.getD i ez) x ≠ 0 := fun e => hn (by rw [← (YE (hm.ve _ (gm (z := ez) hl)) hx).1 e]; exact gm hl)
  omega
theorem YU {α : Type} {f : α → α → Int} {p : α} : ∀ (m : List α), (insGo f p m).length = m.length + 1
 | [] => rfl
 | x :: r => by
  rw [insGo]; split
  ·rfl
  ·simp [YU r]
theorem insGo_pwE {x : Ent} {m : List Ent} (hm : OkG m) (hx : Ve x) (hn : x ∉ m) : (insGo cmpE x m).Pairwise (fun x y => cmpE x y < 0) := by
 have ha := hm.asc
 have hv := hm.ve
 clear hm
 induction m with
 | nil => simp [insGo]
 | cons y r ih =>
  have hy := hv y (by simp)
  rw [insGo]
  rw [List.pairwise_cons] at ha
  split
  ·rename_i hlt
   rw [List.pairwise_cons, List.pairwise_cons]
   refine ⟨fun z hz => ?_, ha⟩
   rcases List.mem_cons.1 hz with rfl | hz
   ·exact hlt
   ·exact cmpE_tr hx hy (hv z (by simp [hz])) hlt (ha.1 z hz)
  ·rename_i hge
   rw [List.pairwise_cons]
   refine ⟨fun z hz => ?_, ih (fun h => hn (by simp [h])) ha.2 (fun e he => hv e (by simp [he]))⟩
   rcases insGo_mem.1 hz with rfl | hz
   ·have h1 := YF hy hx
    have h2 : cmpE y z ≠ 0 := fun e => hn (by rw [← (YE hy hx).1 e]; simp)
    omega
   ·exact ha.1 z hz
def grantR (m : List Ent) (e : Ent) : List Ent × Int := if e.r < 1 ∨ 63 < e.r then (m, 1) else if checkS e.p ≠ 0 then (m, checkS e.p) else if e ∈ m then (m, 5) else if 1000 ≤ m.length then (m, 14) else (insGo cmpE e m, 0)
def dropR (m : List Ent) (e : Ent) : List Ent × Int := if e.r < 1 ∨ 63 < e.r then (m, 1) else if e ∉ m then (m, 4) else (m.filter (· != e), 0)
theorem OkG.grant {m : List Ent} (h : OkG m) {e : Ent} (he : e.p.ok) : OkG (grantR m e).1 := by
 unfold grantR
 split
 ·exact h
 split
 ·exact h
 split
 ·exact h
 split
 ·exact h
 ·rename_i h1 h2 h3 h4
  have hv : Ve e := ⟨by omega, by omega, he, by omega⟩
  exact ⟨insGo_pwE h hv h3, fun x hx => (insGo_mem.1 hx).elim (fun q => q ▸ hv) (h.ve x), by rw [YU]; omega⟩
theorem OkG.drop {m : List Ent} (h : OkG m) (e : Ent) : OkG (dropR m e).1 := by
 unfold dropR
 split
 ·exact h
 split
 ·exact h
 ·exact ⟨h.asc.filter _, fun x hx => h.ve x (List.mem_filter.1 hx).1, Nat.le_trans (List.length_filter_le _ _) h.len⟩
theorem ixE {m : List Ent} {e : Ent} : decide (ixOf (fun y => y == e) m < 0) = decide (e ∉ m) := by
 have h := Vr (fun y : Ent => y == e) m
 rw [Bool.eq_iff_iff] at h ⊢
 simp only [decide_eq_true_iff, List.any_eq_true, beq_iff_eq] at h ⊢
 constructor
 ·intro h1 h2
  have := h.2 ⟨e, h2, rfl⟩
  omega
 ·intro h1
  rcases Int.lt_or_le (ixOf (fun y : Ent => y == e) m) 0 with h2 | h2
  ·exact h2
  ·obtain ⟨y, hy, he⟩ := h.1 h2
   exact absurd (he ▸ hy) h1
theorem ixE_some {m : List Ent} {e : Ent} (h : 0 ≤ ixOf (fun y => y == e) m) : ∃ i : Nat, ixOf (fun y => y == e) m = i ∧ i < m.length ∧ m.getD i ez = e := by
 unfold ixOf at h ⊢
 cases hf : m.findIdx? (fun y => y == e) with
 | none => rw [hf] at h; simp at h
 | some i =>
  obtain ⟨hi, h1, _⟩ := List.findIdx?_eq_some_iff_getElem.1 hf
  refine ⟨i, rfl, hi, ?_⟩
  simpa [List.getD, hi] using h1
theorem filter_ne {e : Ent} : ∀ {m : List Ent}, e ∉ m → m.filter (· != e) = m := fun {m} h =>
 List.filter_eq_self.2 fun x hx => by
  rw [bne_iff_ne]; rintro rfl; exact h hx
theorem del_filter {e : Ent} : ∀ {m : List Ent} {i : Nat}, m.Nodup → i < m.length → m.getD i ez = e → m.take i ++ m.drop (i + 1) = m.filter (· != e)
 | [], i, _, h, _ => by simp at h
 | x :: r, 0, hn, _, he => by
  obtain rfl : x = e := by simpa using he
  have h1 := (List.nodup_cons.1 hn).1
  rw [List.filter_cons]
  simp [filter_ne h1]
 | x :: r, i + 1, hn, h, he => by
  have h2 : i < r.length := by simpa using h
  have h3 : r.getD i ez = e := by simpa using he
  have hx : x ≠ e := fun q => (List.nodup_cons.1 hn).1 (by rw [q, ← h3]; exact gm h2)
  rw [List.filter_cons, if_pos (by simpa using hx), ← del_filter (List.nodup_cons.1 hn).2 h2 h3]
  rfl
def lessE (a b : Ent) : Bool := decide (cmpE a b < 0)
def insD (m : List Ent) (e : Ent) (k : Nat) : Bool := (m.take k).any (lessE e)
def insO (m : List Ent) (e : Ent) (k : Nat) : List Ent := if insD m e k then insGo cmpE e (m.take k) else m.take k
theorem YV {f : Ent → Ent → Int} {p x : Ent} : ∀ (l : List Ent), insGo f p (l ++ [x]) = if l.any (fun y => decide (f p y < 0)) then insGo f p l ++ [x] else l ++ (if f p x < 0 then [p, x] else [x, p])
 | [] => by simp [insGo]
 | y :: l => by
  rw [List.cons_append, insGo, insGo, List.any_cons]
  by_cases h : f p y < 0
  ·simp [h]
  ·simp only [h, if_false, decide_false, Bool.false_or]
   rw [YV l]
   split <;> simp
theorem YW {f : Ent → Ent → Int} {p : Ent} : ∀ (l : List Ent), l.any (fun y => decide (f p y < 0)) = false → insGo f p l = l ++ [p]
 | [], _ => rfl
 | y :: l, h => by
  rw [List.any_cons, Bool.or_eq_false_iff] at h
  rw [insGo, if_neg (by simpa using h.1), YW l h.2]; rfl
theorem Yu {m : List Ent} {k : Nat} (h : k < m.length) : m.take (k + 1) = m.take k ++ [m.getD k ez] := by
 rw [List.take_succ_eq_append_getElem h]; simp [List.getD, h]
theorem insD_succ {m : List Ent} {e : Ent} {k : Nat} (h : k < m.length) : insD m e (k + 1) = (insD m e k || lessE e (m.getD k ez)) := by
 unfold insD; rw [Yu h, List.any_append]; simp
theorem Vo (m : List Ent) (e : Ent) (k : Nat) : (insO m e k).length ≤ m.length + 1 := by
 unfold insO
 split
 ·rw [YU, List.length_take]; omega
 ·rw [List.length_take]; omega
theorem ins_yes {m : List Ent} {e : Ent} {k : Nat} (h : k < m.length) (hd : insD m e k = false) (hl : lessE e (m.getD k ez) = true) : insO m e (k + 1) = insO m e k ++ [e] ++ [m.getD k ez] ∧ insD m e (k + 1) = true := by
 have h1 : insD m e (k + 1) = true := by rw [insD_succ h, hl, Bool.or_true]
 refine ⟨?_, h1⟩
 unfold insO
 rw [if_pos h1, hd, Yu h, YV]
 have h2 : (m.take k).any (fun y => decide (cmpE e y < 0)) = false := hd
 rw [h2, if_pos (of_decide_eq_true hl)]
 simp
theorem ins_no {m : List Ent} {e : Ent} {k : Nat} (h : k < m.length) (hc : (!insD m e k && lessE e (m.getD k ez)) = false) : insO m e (k + 1) = insO m e k ++ [m.getD k ez] ∧ insD m e (k + 1) = insD m e k := by
 cases hd : insD m e k with
 | true =>
  have h1 : insD m e (k + 1) = true := by rw [insD_succ h, hd, Bool.true_or]
  refine ⟨?_, h1⟩
  unfold insO
  rw [if_pos h1, hd, Yu h, YV]
  have h2 : (m.take k).any (fun y => decide (cmpE e y < 0)) = true := hd
  rw [h2]; simp
 | false =>
  have hl : lessE e (m.getD k ez) = false := by rw [hd] at hc; simpa using hc
  have h1 : insD m e (k + 1) = false := by rw [insD_succ h, hd, hl]; rfl
  refine ⟨?_, h1⟩
  unfold insO
  rw [h1, hd, Yu h]
  simp
theorem ins_end {m : List Ent} {e : Ent} {k : Nat} (h : m.length ≤ k) : insGo cmpE e m = if insD m e k then insO m e k else insO m e k ++ [e] := by
 have ht : m.take k = m := List.take_of_length_le h
 unfold insO
 cases hd : insD m e k with
 | true => simp [ht]
 | false =>
  unfold insD at hd
  rw [ht] at hd ⊢
  simp [YW m hd]
def covW (m : List Ent) (a s : Str) : W64 := m.foldl (fun w e => if coversS e.p a s then w ||| oneW e.r.toNat else w) 0
theorem covW_yes {m : List Ent} {a s : Str} {k : Nat} (h : k < m.length) (hc : coversS (m.getD k ez).p a s = true) : covW (m.take (k + 1)) a s = covW (m.take k) a s ||| oneW (m.getD k ez).r.toNat := by
 unfold covW; rw [Yu h, List.foldl_append]
 generalize m.getD k ez = y at hc ⊢
 simp [hc]
theorem covW_no {m : List Ent} {a s : Str} {k : Nat} (h : k < m.length) (hc : coversS (m.getD k ez).p a s = false) : covW (m.take (k + 1)) a s = covW (m.take k) a s := by
 unfold covW; rw [Yu h, List.foldl_append]
 generalize m.getD k ez = y at hc ⊢
 simp [hc]
def ofG (m : List Ent) (r : Int) : List Perm := (m.filter fun e => e.r == r).map (·.p)
section
variable {m : List Ent} {k : Nat} {s : W64} {r : Int}
theorem ofG_yes (h : k < m.length) (hc : ((m.getD k ez).r == r) = true) : ofG (m.take (k + 1)) r = ofG (m.take k) r ++ [(m.getD k ez).p] := by
 unfold ofG; rw [Yu h, List.filter_append, List.map_append]; generalize m.getD k ez = y at hc ⊢; simp [eq_of_beq hc]
theorem ofG_no (h : k < m.length) (hc : ((m.getD k ez).r == r) = false) : ofG (m.take (k + 1)) r = ofG (m.take k) r := by
 unfold ofG; rw [Yu h, List.filter_append, List.map_append]; generalize m.getD k ez = y at hc ⊢; simp [beq_eq_false_iff_ne.1 hc]
theorem ofG_len (m : List Ent) (r : Int) : (ofG m r).length ≤ m.length := by unfold ofG; rw [List.length_map]; exact List.length_filter_le _ _
end
section
variable {imp : Int → Int → Bool} {m l : List Ent} {k : Nat}
end
end Go.Lx
/- Books of grants without what is needless. Nothing of a program stands here. -/
namespace Go.Lx
open Go
structure ImpOk (imp : Int → Int → Bool) : Prop where
 tr : ∀ a b c : Int, imp a b = true → imp b c = true → imp a c = true
 rk : ∃ (ρ : Int → Nat) (N : Nat), (∀ a, ρ a ≤ N) ∧ ∀ a b, imp a b = true → a = b ∨ ρ a < ρ b
end Go.Lx
/- Books of grants in memory; the law's operations. Nothing of a program stands here. -/
namespace Go.Lx
open Go Go.RowKit
def GbIs (w : World) (v : Value) (m : List Ent) : Prop := ∃ p a c, v = .pointer (some ⟨p, 0, none⟩) ∧ At w p 0 [.slice a m.length c] ∧ Sl encE 4 (Lt w.heap.size) w a c m
theorem GbIs.ext {γ : Prop} {w w' : World} {v : Value} {m : List Ent} (h : GbIs w v m) (x : Ext γ w w') : GbIs w' v m :=
 let ⟨p, a, c, h1, h2, h3⟩ := h
 ⟨p, a, c, h1, h2.keep x id, (h3.ext x).top⟩
def GbF (F : Nat → Prop) (w : World) (v : Value) (m : List Ent) : Prop := ∃ p a c, v = .pointer (some ⟨p, 0, none⟩) ∧ F p ∧ At w p 0 [.slice a m.length c] ∧ Sl encE 4 F w a c m
section
variable {F F' D : Nat → Prop} {γ : Prop} {w w' : World} {v : Value} {m : List Ent}
theorem GbF.keep (h : GbF F w v m) (x : Bel γ D w w') (hd : ∀ b, b < w.heap.size → F b → ¬ D b) : GbF F w' v m :=
 let ⟨p, a, c, h1, h2, h3, h4⟩ := h
 ⟨p, a, c, h1, h2, h3.keep x (hd p h3.lt h2), h4.keep x hd⟩
theorem GbF.ext (h : GbF F w v m) (x : Ext γ w w') : GbF F w' v m := h.keep x fun _ _ _ => id
theorem GbF.mono (h : GbF F w v m) (hd : ∀ b, b < w.heap.size → F b → F' b) : GbF F' w v m :=
 let ⟨p, a, c, h1, h2, h3, h4⟩ := h
 ⟨p, a, c, h1, hd p h3.lt h2, h3, h4.mono hd⟩
theorem GbF.is (h : GbF F w v m) : GbIs w v m :=
 let ⟨p, a, c, h1, _, h3, h4⟩ := h
 ⟨p, a, c, h1, h3, h4.top⟩
theorem GbIs.f (h : GbIs w v m) : GbF (Lt w.heap.size) w v m :=
 let ⟨p, a, c, h1, h3, h4⟩ := h
 ⟨p, a, c, h1, h3.lt, h3, h4⟩
end
def GbP (w : World) (p : Value) (e : Int) (m : List Ent) : Prop := (e = 0 → GbIs w p m) ∧ (e ≠ 0 → p = .pointer none)
theorem GbP.ext {γ : Prop} {w w' : World} {p : Value} {e : Int} {m : List Ent} (h : GbP w p e m) (x : Ext γ w w') : GbP w' p e m := ⟨fun he => (h.1 he).ext x, h.2⟩
def GbO (w : World) (p : Value) (m : List Ent) : Prop := GbIs w p m ∨ p = .pointer none ∧ m = []
theorem GbO.ext {γ : Prop} {w w' : World} {p : Value} {m : List Ent} (h : GbO w p m) (x : Ext γ w w') : GbO w' p m := h.imp (·.ext x) id
theorem gb_new {w : World} {p : Nat} {T : TypeId} {a : Option Addr} {c k : Nat} {m : List Ent} {D : Nat → Prop} {e : TypeId} (hb : Box w p T [.slice a k c]) (hk : k = m.length) (ho : Own encE 4 e D w (.slice a k c) m) : GbIs w (.pointer (some ⟨p, 0, none⟩)) m := by
 subst hk
 exact ⟨p, a, c, rfl, hb.at, (ho.slA QZ).top⟩
theorem gb_nil {w : World} {p : Nat} {T : TypeId} (hb : Box w p T [.slice none 0 0]) : GbIs w (.pointer (some ⟨p, 0, none⟩)) [] := ⟨p, none, 0, rfl, hb.at, Sl.none⟩
structure GOp where
 wd : Bool
 rl : UInt8
 p : RawV
def encGo (o : GOp) : List Value := .bool o.wd :: .int .u8 (o.rl.toNat : Int) :: encR o.p
def goz : GOp := ⟨false, 0, rwz⟩
def roleL : List Int := [0, 63, 64, -1, 65, 62]
def roleN (n : UInt8) : Int := if 250 ≤ n.toNat then roleL.getD (n.toNat - 250) 0 else 1 + ((n.toNat % 6 : Nat) : Int)
def GOp.ent (o : GOp) : Ent := ⟨roleN o.rl, o.p.perm⟩
theorem GOp.okp (o : GOp) : o.ent.p.ok := o.p.ok
def stepGr (m : List Ent) (o : GOp) : List Ent × Int := if o.wd then dropR m o.ent else grantR m o.ent
theorem OkG.step {m : List Ent} (h : OkG m) (o : GOp) : OkG (stepGr m o).1 := by
 unfold stepGr
 split
 ·exact h.drop _
 ·exact h.grant o.okp
theorem half_natE {n : Nat} (h : n < 18446744073709551616) : (BitVec.ofNat 64 n >>> 1).toNat = n / 2 := by
 rw [BitVec.toNat_ushiftRight, BitVec.toNat_ofNat, Nat.mod_eq_of_lt (by omega), Nat.shiftRight_eq_div_pow]
theorem beq_swE (a b : Ent) : (a == b) = (b == a) := by
 rw [Bool.eq_iff_iff, beq_iff_eq, beq_iff_eq]; exact ⟨Eq.symm, Eq.symm⟩
theorem lessE_ne {a b : Ent} (h : (a.r != b.r) = true) : decide (a.r < b.r) = lessE a b := by
 have h1 : a.r ≠ b.r := by simpa using h
 rw [lessE, cmpE, if_pos h]
 unfold cmpI
 rw [Bool.eq_iff_iff, decide_eq_true_iff, decide_eq_true_iff]
 (repeat' split) <;> omega
theorem lessE_eq {a b : Ent} (h : (a.r != b.r) = false) : decide (cmpM a.p b.p < 0) = lessE a b := by
 rw [lessE, cmpE, if_neg (by rw [h]; simp)]
end Go.Lx
/- Which role implies which. Nothing of a program stands here. -/
namespace Go.Lx
open Go
def ImpP (L : List Pr) (r s : Int) : Prop := ∃ a b : Fin 64, r = iv a ∧ s = iv b ∧ 1 ≤ a.val ∧ 1 ≤ b.val ∧ (b = a ∨ Rch L a b)
noncomputable def impLk (L : List Pr) (r s : Int) : Bool := @decide (ImpP L r s) (Classical.propDecidable _)
def HyO (F : Nat → Prop) (w : World) (v : Value) (imp : Int → Int → Bool) : Prop := (∃ L ph po o, v = .pointer (some ⟨ph, 0, none⟩) ∧ F ph ∧ At w ph 0 [.pointer (some ⟨po, 0, none⟩)] ∧ OdAt F w po o ∧ HOk o L ∧ imp = impLk L) ∨ v = .pointer none ∧ imp = fun _ _ => false
section
variable {F F' D : Nat → Prop} {γ : Prop} {w w' : World} {v : Value} {imp : Int → Int → Bool}
theorem HyO.keep (h : HyO F w v imp) (x : Bel γ D w w') (hd : ∀ b, b < w.heap.size → F b → ¬ D b) : HyO F w' v imp :=
 h.imp (fun ⟨L, ph, po, o, h1, h2, h3, h4, h5⟩ => ⟨L, ph, po, o, h1, h2, h3.keep x (hd ph h3.lt h2), h4.keep x hd, h5⟩) id
theorem HyO.ext (h : HyO F w v imp) (x : Ext γ w w') : HyO F w' v imp := h.keep x fun _ _ _ => id
theorem HyO.mono (h : HyO F w v imp) (hd : ∀ b, b < w.heap.size → F b → F' b) : HyO F' w v imp :=
 h.imp (fun ⟨L, ph, po, o, h1, h2, h3, h4, h5⟩ => ⟨L, ph, po, o, h1, hd ph h3.lt h2, h3, h4.mono hd, h5⟩) id
theorem HyO.none : HyO (fun _ => False) w (.pointer none) (fun _ _ => false) := .inr ⟨rfl, rfl⟩
end
end Go.Lx
/- What the walks ask of this program's types of grants. -/
namespace Go.Proofs.YtgmpgfokblehdaaGreatDoor
open Go Go.Lx
set_option maxRecDepth 10000
theorem eqF_consA {P : Program} {d k : Nat} {xs ys a b : Array Value} {f : Field} {fs : List Field} {r r' : Bool} (hn : f.name ≠ "_") (ha : ∀ w, (isAgg f.type).run P w = .ok true w) (hs : ∀ w, (sizeOf f.type).run P w = .ok k w) (hx : xs.extract f.offset (f.offset + k) = a) (hy : ys.extract f.offset (f.offset + k) = b)
  (he : ∀ w, (Op.equalIn d f.type (.agg a) (.agg b)).run P w = .ok r w) (hr : ∀ w, (Op.eqFields d xs ys fs).run P w = .ok r' w) : ∀ w, (Op.eqFields d xs ys (f :: fs)).run P w = .ok (r && r') w := by
 intro w
 simp only [Op.eqFields, hn, ne_eq, not_false_eq_true, if_true, Sem.run_bind, part, ha, hs, Result.andThen_ok, hx, hy, Sem.run_pure, he]
 cases r
 ·simp
 ·simp [hr]
theorem eqI_int (d : Nat) (x y : Int) : ∀ w, (Op.equalIn (d + 1) 3 (.int .i64 x) (.int .i64 y)).run Tryz.prog w = .ok (x == y) w := by
 intro w
 simp [Op.equalIn, run_underlying Tryz.underlying3]
theorem entBeq (x y : Ent) : (x == y) = ((x.r == y.r) && (x.p == y.p)) := by
 obtain ⟨a, b⟩ := x
 obtain ⟨a', b'⟩ := y
 rw [Bool.eq_iff_iff]
 simp only [Bool.and_eq_true, beq_iff_eq, Ent.mk.injEq]
theorem eq_permD (x y : Perm) : ∀ w, (Op.equalIn 9999 50 (.agg (encP x).toArray) (.agg (encP y).toArray)).run Tryz.prog w = .ok (x == y) w := fun w => by
 rw [run_equalIn_struct w 9998 _ _ _ (by kernel_rfl) (by kernel_rfl), permBeq, Bool.and_assoc, Program.fieldsOf, Tryz.underlying50]
 have h3 : ((x.deep == y.deep) : Bool) = ((x.deep == y.deep) && true) := (Bool.and_true _).symm
 rw [h3]
 exact ZV (by simp) Tryz.isAgg9 rfl rfl (YL _ _ Tryz.underlying9) (ZV (by simp) Tryz.isAgg9 rfl rfl (YL _ _ Tryz.underlying9) (ZV (by simp) Tryz.isAgg4 rfl rfl (fun w => run_equalIn_bool' w _ _ _ _ Tryz.underlying4) YK)) w
theorem eq_ent : EqT Tryz.prog 52 encE := ⟨by kernel_rfl, fun w x y => by
 rw [run_equalIn_struct w 9999 _ _ _ (by kernel_rfl) (by kernel_rfl), entBeq, Program.fieldsOf, Tryz.underlying52]
 have h3 : ((x.p == y.p) : Bool) = ((x.p == y.p) && true) := (Bool.and_true _).symm
 rw [h3]
 exact ZV (by simp) Tryz.isAgg3 rfl rfl (eqI_int _ _ _) (eqF_consA (by simp) Tryz.isAgg50 Tryz.sizeOf50 rfl rfl (eq_permD x.p y.p) YK) w⟩
theorem eq_rpermD (x y : Perm) : ∀ w, (Op.equalIn 9999 78 (.agg (encP x).toArray) (.agg (encP y).toArray)).run Tryz.prog w = .ok (x == y) w := fun w => by
 rw [run_equalIn_struct w 9998 _ _ _ (by kernel_rfl) (by kernel_rfl), permBeq, Bool.and_assoc, Program.fieldsOf, Tryz.underlying78]
 have h3 : ((x.deep == y.deep) : Bool) = ((x.deep == y.deep) && true) := (Bool.and_true _).symm
 rw [h3]
 exact ZV (by simp) Tryz.isAgg9 rfl rfl (YL _ _ Tryz.underlying9) (ZV (by simp) Tryz.isAgg9 rfl rfl (YL _ _ Tryz.underlying9) (ZV (by simp) Tryz.isAgg4 rfl rfl (fun w => run_equalIn_bool' w _ _ _ _ Tryz.underlying4) YK)) w
theorem eq_rent : EqT Tryz.prog 88 encE := ⟨by kernel_rfl, fun w x y => by
 rw [run_equalIn_struct w 9999 _ _ _ (by kernel_rfl) (by kernel_rfl), entBeq, Program.fieldsOf, Tryz.underlying88]
 have h3 : ((x.p == y.p) : Bool) = ((x.p == y.p) && true) := (Bool.and_true _).symm
 rw [h3]
 exact ZV (by simp) Tryz.isAgg3 rfl rfl (eqI_int _ _ _) (eqF_consA (by simp) Tryz.isAgg78 Tryz.sizeOf78 rfl rfl (eq_rpermD x.p y.p) YK) w⟩
theorem JJ : ElT Tryz.prog 47 52 4 48 (.agg #[.int .i64 0, .string ⟨#[]⟩, .string ⟨#[]⟩, .bool false]) := ⟨Tryz.underlying47, ⟨Tryz.t52, by kernel_rfl, rfl, rfl, rfl⟩, rfl, by decide, by decide⟩
theorem Ju : ElT Tryz.prog 26 88 4 48 (.agg #[.int .i64 0, .string ⟨#[]⟩, .string ⟨#[]⟩, .bool false]) := ⟨Tryz.underlying26, ⟨Tryz.t88, by kernel_rfl, rfl, rfl, rfl⟩, rfl, by decide, by decide⟩
end Go.Proofs.YtgmpgfokblehdaaGreatDoor
/- Sessions: what the operations on a book answer. Nothing of a program stands here. -/
namespace Go.Lx
open Go
structure RS where
 n : Int
 u : Int
 x : W64
 deriving DecidableEq
def rz : RS := ⟨0, 0, 0⟩
structure OkM (m : List RS) : Prop where
 asc : m.Pairwise fun a b => a.n < b.n
 rng : ∀ s ∈ m, 1 ≤ s.n ∧ s.n ≤ 64
 usr : ∀ s ∈ m, 1 ≤ s.u ∧ s.u ≤ 256
 rol : ∀ s ∈ m, s.x.getLsbD 0 = false
theorem OkM.nil : OkM [] := ⟨List.Pairwise.nil, by simp, by simp, by simp⟩
theorem Yv {m : List RS} (h : m.Pairwise fun a b => a.n < b.n) {i j : Nat} (hij : i < j) (hj : j < m.length) : (m.getD i rz).n < (m.getD j rz).n := by
 have := List.pairwise_iff_getElem.1 h i j (by omega) hj hij
 simpa [List.getD, show i < m.length by omega, hj] using this
theorem OkM.ge {m : List RS} (h : OkM m) : ∀ {i : Nat}, i < m.length → (i : Int) + 1 ≤ (m.getD i rz).n := by
 intro i
 induction i with
 | zero => intro hi; have := (h.rng _ (gm (z := rz) hi)).1; omega
 | succ i ih =>
  intro hi
  have h1 := ih (by omega)
  have h2 := Yv h.asc (i := i) (j := i + 1) (by omega) hi
  omega
theorem OkM.len {m : List RS} (h : OkM m) : m.length ≤ 64 := by
 rcases Nat.lt_or_ge m.length 65 with h1 | h1
 ·omega
 ·have h2 := h.ge (i := m.length - 1) (by omega)
  have h3 := (h.rng _ (gm (z := rz) (show m.length - 1 < m.length by omega))).2
  omega
def gapF : List RS → Int → Nat
 | [], _ => 0
 | s :: r, k => if s.n = k then gapF r (k + 1) + 1 else 0
def gap (m : List RS) : Nat := gapF m 1
theorem gapF_uniq : ∀ (m : List RS) (k : Int) (i : Nat), i ≤ m.length → (∀ j, j < i → (m.getD j rz).n = k + j) → (i < m.length → (m.getD i rz).n ≠ k + i) → i = gapF m k
 | [], k, i, h, _, _ => by simp at h; subst h; rfl
 | s :: r, k, 0, h, h1, h2 => by
  have := h2 (by simp)
  simp at this
  simp [gapF, this]
 | s :: r, k, i + 1, h, h1, h2 => by
  have h3 := h1 0 (by omega)
  simp at h3
  rw [gapF, if_pos h3, gapF_uniq r (k + 1) i (by simpa using h) (fun j hj => by
   have := h1 (j + 1) (by omega)
   simp only [List.getD_cons_succ] at this
   rw [this]; push_cast; omega) (fun hi => by
   have := h2 (by simpa using hi)
   simp only [List.getD_cons_succ] at this
   intro e; apply this; rw [e]; push_cast; omega)]
theorem gapF_ok : ∀ (m : List RS) (k : Int), gapF m k ≤ m.length ∧ (∀ j, j < gapF m k → (m.getD j rz).n = k + j) ∧ (gapF m k < m.length → (m.getD (gapF m k) rz).n ≠ k + gapF m k)
 | [], k => by simp [gapF]
 | s :: r, k => by
  obtain ⟨h1, h2, h3⟩ := gapF_ok r (k + 1)
  by_cases e : s.n = k
  ·rw [gapF, if_pos e]
   refine ⟨by simpa using h1, ?_, ?_⟩
   ·intro j hj
    cases j with
    | zero => simp [e]
    | succ j =>
     rw [List.getD_cons_succ, h2 j (by omega)]; push_cast; omega
   ·intro hl
    rw [List.getD_cons_succ]
    have := h3 (by simpa using hl)
    intro e2; apply this; rw [e2]; push_cast; omega
  ·rw [gapF, if_neg e]
   refine ⟨by simp, by simp, ?_⟩
   intro _; simpa using e
theorem gap_uniq {m : List RS} {i : Nat} (h : i ≤ m.length) (h1 : ∀ j, j < i → (m.getD j rz).n = (j : Int) + 1) (h2 : i < m.length → (m.getD i rz).n ≠ (i : Int) + 1) : i = gap m :=
 gapF_uniq m 1 i h (fun j hj => by rw [h1 j hj]; omega) (fun hi e => h2 hi (by rw [e]; omega))
theorem gap_le (m : List RS) : gap m ≤ m.length := (gapF_ok m 1).1
theorem gap_lt {m : List RS} {j : Nat} (h : j < gap m) : (m.getD j rz).n = (j : Int) + 1 := by rw [(gapF_ok m 1).2.1 j h]; omega
theorem gap_at {m : List RS} (h : gap m < m.length) : (m.getD (gap m) rz).n ≠ (gap m : Int) + 1 := by
 have := (gapF_ok m 1).2.2 h
 intro e; exact this (by show (m.getD (gap m) rz).n = 1 + (gap m : Int); omega)
def newS (m : List RS) (u : Int) : RS := ⟨(gap m : Int) + 1, u, 0⟩
def openM (m : List RS) (u : Int) : List RS := m.take (gap m) ++ newS m u :: m.drop (gap m)
theorem mem_open {m : List RS} {u : Int} {s : RS} : s ∈ openM m u ↔ s = newS m u ∨ s ∈ m := by
 unfold openM
 rw [List.mem_append, List.mem_cons]
 have e : s ∈ m ↔ s ∈ m.take (gap m) ∨ s ∈ m.drop (gap m) := by rw [← List.mem_append, List.take_append_drop]
 rw [e]
 constructor
 ·rintro (h | h | h)
  ·exact .inr (.inl h)
  ·exact .inl h
  ·exact .inr (.inr h)
 ·rintro (h | h | h)
  ·exact .inr (.inl h)
  ·exact .inl h
  ·exact .inr (.inr h)
theorem open_len (m : List RS) (u : Int) : (openM m u).length = m.length + 1 := by
 have := gap_le m
 simp [openM]; omega
theorem gtake_n {m : List RS} {s : RS} (h : s ∈ m.take (gap m)) : s.n < (gap m : Int) + 1 := by
 obtain ⟨i, hi, rfl⟩ := List.getElem_of_mem h
 rw [List.length_take] at hi
 have := gap_lt (m := m) (j := i) (by omega)
 simp [List.getD, show i < m.length by omega] at this
 rw [List.getElem_take, this]; omega
theorem drop_n {m : List RS} (hm : OkM m) {s : RS} (h : s ∈ m.drop (gap m)) : (gap m : Int) + 1 < s.n := by
 obtain ⟨i, hi, rfl⟩ := List.getElem_of_mem h
 rw [List.length_drop] at hi
 have hg : gap m < m.length := by omega
 have h1 := gap_at hg
 have h2 := hm.ge hg
 rw [List.getElem_drop]
 have e : m[gap m + i]'(by omega) = m.getD (gap m + i) rz := by simp [List.getD, show gap m + i < m.length by omega]
 rw [e]
 cases i with
 | zero => simp only [Nat.add_zero]; omega
 | succ i =>
  have := Yv hm.asc (i := gap m) (j := gap m + (i + 1)) (by omega) (by omega)
  omega
theorem OkM.open {m : List RS} (h : OkM m) {u : Int} (hu : 1 ≤ u ∧ u ≤ 256) (hl : m.length < 64) : OkM (openM m u) where
 asc := by
  unfold openM
  rw [List.pairwise_append, List.pairwise_cons]
  refine ⟨h.asc.sublist (List.take_sublist _ _), ⟨fun s hs => drop_n h hs, h.asc.sublist (List.drop_sublist _ _)⟩, fun a ha b hb => ?_⟩
  have h1 := gtake_n ha
  rcases List.mem_cons.1 hb with rfl | hb
  ·exact h1
  ·have := drop_n h hb; omega
 rng s hs := by
  rcases mem_open.1 hs with rfl | hs
  ·have := gap_le m
   simp only [newS]; omega
  ·exact h.rng s hs
 usr s hs := by
  rcases mem_open.1 hs with rfl | hs
  ·exact hu
  ·exact h.usr s hs
 rol s hs := by
  rcases mem_open.1 hs with rfl | hs
  ·simp [newS]
  ·exact h.rol s hs
def fnd (m : List RS) (n : Int) : Int := ixOf (fun s => s.n == n) m
theorem fnd_no {m : List RS} {n : Int} (h : ∀ s ∈ m, s.n ≠ n) : fnd m n = -1 :=
 Jo (Nat.le_refl _) (by rw [List.take_length, List.any_eq_false]; intro s hs; simpa using h s hs)
theorem no_fnd {m : List RS} {n : Int} (h : fnd m n < 0) : ∀ s ∈ m, s.n ≠ n := by
 have h1 := Vr (fun s : RS => s.n == n) m
 have h2 : decide ((0 : Int) ≤ fnd m n) = false := decide_eq_false (by omega)
 unfold fnd at h2
 rw [h2] at h1
 have := List.any_eq_false.1 h1.symm
 intro s hs; simpa using this s hs
theorem fnd_some {m : List RS} {n : Int} (h : 0 ≤ fnd m n) : ∃ i : Nat, fnd m n = i ∧ i < m.length ∧ (m.getD i rz).n = n := by
 have h3 : (fnd m n == -1) = false := by simp; omega
 obtain ⟨i, h1, h2, _, h4⟩ := ix_some rz h3
 exact ⟨i, h1, h2, by simpa using h4⟩
theorem n_inj {m : List RS} (h : OkM m) {i j : Nat} (hi : i < m.length) (hj : j < m.length) (e : (m.getD i rz).n = (m.getD j rz).n) : i = j := by
 rcases Nat.lt_trichotomy i j with h1 | h1 | h1
 ·have := Yv h.asc h1 hj; omega
 ·exact h1
 ·have := Yv h.asc h1 hi; omega
theorem fnd_at {m : List RS} (h : OkM m) {n : Int} {i : Nat} (hi : i < m.length) (hn : (m.getD i rz).n = n) : fnd m n = i := by
 rcases Int.lt_or_le (fnd m n) 0 with h1 | h1
 ·exact absurd hn (no_fnd h1 _ (gm hi))
 ·obtain ⟨j, h2, h3, h4⟩ := fnd_some h1
  rw [h2, n_inj h h3 hi (h4.trans hn.symm)]
section
variable {m : List RS} (hm : OkM m) {u : Int} (hu : 1 ≤ u ∧ u ≤ 256) (hl : m.length < 64) {k : Int}
include hm hu hl
end
def closeM (m : List RS) (n : Int) : List RS := m.filter fun s => s.n != n
theorem close_eq {m : List RS} (hm : OkM m) {i : Nat} (hi : i < m.length) : m.take i ++ m.drop (i + 1) = closeM m (m.getD i rz).n := by
 have e : m = m.take i ++ m.getD i rz :: m.drop (i + 1) := by
  have : m.getD i rz = m[i] := by simp [List.getD, hi]
  rw [this, ← List.drop_eq_getElem_cons hi, List.take_append_drop]
 have h1 := hm.asc
 rw [e, List.pairwise_append, List.pairwise_cons] at h1
 obtain ⟨_, ⟨h3, _⟩, h4⟩ := h1
 have hr : closeM m (m.getD i rz).n = closeM (m.take i ++ m.getD i rz :: m.drop (i + 1)) (m.getD i rz).n := congrArg (fun l => closeM l (m.getD i rz).n) e
 rw [hr]
 unfold closeM
 rw [List.filter_append, List.filter_cons_of_neg (by simp), List.filter_eq_self.2, List.filter_eq_self.2]
 ·intro s hs; have := h3 s hs; rw [bne_iff_ne]; omega
 ·intro s hs; have := h4 s hs _ (List.mem_cons_self ..); rw [bne_iff_ne]; omega
theorem OkM.sub {m m' : List RS} (h : OkM m) (hs : m'.Sublist m) : OkM m' :=
 ⟨h.asc.sublist hs, fun s h1 => h.rng s (hs.subset h1), fun s h1 => h.usr s (hs.subset h1), fun s h1 => h.rol s (hs.subset h1)⟩
theorem OkM.close {m : List RS} (h : OkM m) (n : Int) : OkM (closeM m n) := h.sub List.filter_sublist
def setM (m : List RS) (i : Nat) (x : W64) : List RS := m.set i ⟨(m.getD i rz).n, (m.getD i rz).u, x⟩
theorem OkM.set {m : List RS} (h : OkM m) {i : Nat} (hi : i < m.length) {x : W64} (hx : x.getLsbD 0 = false) : OkM (setM m i x) := by
 have hs : ∀ s ∈ setM m i x, s = ⟨(m.getD i rz).n, (m.getD i rz).u, x⟩ ∨ s ∈ m := fun s hs => (List.mem_or_eq_of_mem_set hs).symm
 have hg := gm (z := rz) hi
 refine ⟨?_, ?_, ?_, ?_⟩
 ·rw [List.pairwise_iff_getElem]
  intro a b ha hb hab
  have hn : ∀ j (hj : j < (setM m i x).length), (setM m i x)[j].n = (m.getD j rz).n := by
   intro j hj
   have hj' : j < m.length := by simpa [setM] using hj
   simp only [setM, List.getElem_set]
   split
   ·rename_i e; subst e; rfl
   ·simp [List.getD, hj']
  rw [hn a ha, hn b hb]
  exact Yv h.asc hab (by simpa [setM] using hb)
 ·intro s h1
  rcases hs s h1 with rfl | h1
  ·exact h.rng (m.getD i rz) hg
  ·exact h.rng _ h1
 ·intro s h1
  rcases hs s h1 with rfl | h1
  ·exact h.usr (m.getD i rz) hg
  ·exact h.usr _ h1
 ·intro s h1
  rcases hs s h1 with rfl | h1
  ·exact hx
  ·exact h.rol _ h1
def openR (m : List RS) (u : Int) : List RS × Int × Int := if u < 1 ∨ 256 < u then (m, 0, 1) else if 64 ≤ m.length then (m, 0, 14) else (openM m u, (gap m : Int) + 1, 0)
def closeR (m : List RS) (n : Int) : List RS × Int := if fnd m n < 0 then (m, 4) else (closeM m n, 0)
def hasB (x : W64) (r : Int) : Bool := x.getLsbD r.toNat
def setR (m : List RS) (n r : Int) (act : Bool) : List RS × Int :=
 if r < 1 ∨ 63 < r then (m, 1) else if fnd m n < 0 then (m, 4) else
 if hasB (m.getD (fnd m n).toNat rz).x r = act then (m, if act then 5 else 4)
 else (setM m (fnd m n).toNat ((m.getD (fnd m n).toNat rz).x ^^^ oneW r.toNat), 0)
theorem OkM.openR {m : List RS} (h : OkM m) (u : Int) : OkM (openR m u).1 := by
 unfold Lx.openR
 split
 ·exact h
 ·split
  ·exact h
  ·exact h.open (by omega) (by omega)
theorem OkM.closeR {m : List RS} (h : OkM m) (n : Int) : OkM (closeR m n).1 := by
 unfold Lx.closeR
 split
 ·exact h
 ·exact h.close n
theorem OkM.setR {m : List RS} (h : OkM m) (n r : Int) (act : Bool) : OkM (setR m n r act).1 := by
 unfold Lx.setR
 split
 ·exact h
 ·split
  ·exact h
  ·split
   ·exact h
   ·obtain ⟨i, h1, h2, _⟩ := fnd_some (m := m) (n := n) (by omega)
    rw [h1, Int.toNat_natCast]
    refine h.set h2 ?_
    have := h.rol _ (gm (z := rz) h2)
    rw [BitVec.getLsbD_xor, this, Z3 r.toNat 0 (by omega)]
    have : r.toNat ≠ 0 := by omega
    simp; omega
structure BsI (m : List RS) (n : Int) (i j : Nat) : Prop where
 le : i ≤ j
 len : j ≤ m.length
 low : ∀ t, t < i → (m.getD t rz).n < n
 up : ∀ t, j ≤ t → t < m.length → n ≤ (m.getD t rz).n
theorem BsI.start (m : List RS) (n : Int) {k : Nat} (h : k = m.length) : BsI m n 0 k := ⟨Nat.zero_le _, by omega, fun t h => by omega, fun t h h2 => by omega⟩
section
variable {m : List RS} {n : Int} {i j : Nat} (h : BsI m n i j) (hm : OkM m)
include h hm
theorem BsI.lo {k : Nat} (h1 : i ≤ k) (h2 : k < j) (hk : (m.getD k rz).n < n) : BsI m n (k + 1) j := by
 refine ⟨by omega, h.len, fun t ht => ?_, h.up⟩
 rcases Nat.lt_or_ge t k with h3 | h3
 ·have := Yv hm.asc h3 (by have := h.len; omega); omega
 ·obtain rfl : t = k := by omega
  exact hk
theorem BsI.hi {k : Nat} (h1 : i ≤ k) (h2 : k < j) (hk : n ≤ (m.getD k rz).n) : BsI m n i k := by
 refine ⟨h1, by have := h.len; omega, h.low, fun t ht hl => ?_⟩
 rcases Nat.lt_or_ge k t with h3 | h3
 ·have := Yv hm.asc h3 hl; omega
 ·obtain rfl : t = k := by omega
  exact hk
end
theorem BsI.fin {m : List RS} {n : Int} {i : Nat} (h : BsI m n i i) (hm : OkM m) : decide (0 ≤ fnd m n) = (decide (i < m.length) && decide ((m.getD i rz).n = n)) ∧ (0 ≤ fnd m n → fnd m n = i) := by
 by_cases h1 : i < m.length ∧ (m.getD i rz).n = n
 ·have e := fnd_at hm h1.1 h1.2
  refine ⟨?_, fun _ => e⟩
  rw [e, decide_eq_true h1.1, decide_eq_true h1.2]; simp
 ·have e : fnd m n = -1 := fnd_no fun s hs hn => by
   obtain ⟨t, ht, rfl⟩ := List.getElem_of_mem hs
   have et : (m.getD t rz).n = n := by simpa [List.getD, ht] using hn
   rcases Nat.lt_trichotomy t i with h2 | h2 | h2
   ·have := h.low t h2; omega
   ·subst h2; exact h1 ⟨ht, et⟩
   ·rcases Nat.lt_or_ge i m.length with h3 | h3
    ·have h4 := Yv hm.asc h2 ht
     have h5 := h.up i (Nat.le_refl _) h3
     omega
    ·omega
  refine ⟨?_, fun h2 => by omega⟩
  rw [e]
  symm
  rw [show decide ((0 : Int) ≤ -1) = false by decide, Bool.and_eq_false_iff]
  by_cases h2 : i < m.length
  ·exact .inr (decide_eq_false fun h3 => h1 ⟨h2, h3⟩)
  ·exact .inl (decide_eq_false h2)
theorem half_nat {n : Nat} (h : n < 18446744073709551616) : (BitVec.ofNat 64 n >>> 1).toNat = n / 2 := by
 rw [BitVec.toNat_ushiftRight, BitVec.toNat_ofNat, Nat.mod_eq_of_lt (by omega), Nat.shiftRight_eq_div_pow]
theorem xor_or {x : W64} {i : Nat} (hi : i < 64) (h : x.getLsbD i = false) : x ^^^ oneW i = x ||| oneW i := BitVec.eq_of_getLsbD_eq fun j hj => by
 rw [BitVec.getLsbD_xor, BitVec.getLsbD_or, Z3 i j hi]
 by_cases e : j = i
 ·subst e; rw [h]; simp
 ·simp [e]
structure SOp where
 k : UInt8
 s : UInt8
 u : Int
 r : Int
def numO (o : SOp) : Int := ((o.s.toNat % 70 : Nat) : Int)
def kindO (o : SOp) : Nat := o.k.toNat % 5
def stepR (m : List RS) (o : SOp) : List RS × Int :=
 if kindO o ≤ 1 then ((openR m o.u).1, (openR m o.u).2.2) else if kindO o = 2 then closeR m (numO o) else if kindO o = 3 then setR m (numO o) o.r true else setR m (numO o) o.r false
theorem OkM.step {m : List RS} (h : OkM m) (o : SOp) : OkM (stepR m o).1 := by
 unfold stepR
 split
 ·exact h.openR _
 ·split
  ·exact h.closeR _
  ·split <;> exact h.setR _ _ _
structure FullTo (m : List RS) (k : Nat) : Prop where
 ok : OkM m
 len : m.length = k
 num : ∀ j, j < k → (m.getD j rz).n = (j : Int) + 1
theorem FullTo.start : FullTo [] 0 := ⟨OkM.nil, rfl, fun j h => absurd h (Nat.not_lt_zero _)⟩
theorem FullTo.gapk {m : List RS} {k : Nat} (h : FullTo m k) : gap m = k := (gap_uniq (by rw [h.len]; exact Nat.le_refl _) h.num (fun hk => by rw [h.len] at hk; omega)).symm
theorem FullTo.open {m : List RS} {k : Nat} (h : FullTo m k) (hk : k < 64) {u : Int} (hu : 1 ≤ u ∧ u ≤ 256) : openR m u = (openM m u, (k : Int) + 1, 0) ∧ FullTo (openM m u) (k + 1) := by
 have hl := h.len
 refine ⟨by rw [openR, if_neg (by omega), if_neg (by omega), h.gapk], h.ok.open hu (by omega), by rw [open_len, h.len], fun j hj => ?_⟩
 have e : openM m u = m ++ [newS m u] := by
  unfold openM
  rw [h.gapk, List.take_of_length_le (by omega), List.drop_of_length_le (by omega)]
 rw [e]
 rcases Nat.lt_or_ge j k with h1 | h1
 ·rw [← h.num j h1]
  simp [List.getD, List.getElem?_append_left (show j < m.length by omega)]
 ·have : j = m.length := by omega
  subst this
  simp [List.getD, newS, h.gapk, hl]
theorem FullTo.close {m : List RS} (h : FullTo m 64) {x : Nat} (hx : x < 64) : closeR m ((x : Int) + 1) = (closeM m ((x : Int) + 1), 0) ∧ OkM (closeM m ((x : Int) + 1)) ∧ (closeM m ((x : Int) + 1)).length = 63 ∧ gap (closeM m ((x : Int) + 1)) = x := by
 have hl := h.len
 have hn := h.num x hx
 have hf : fnd m ((x : Int) + 1) = x := fnd_at h.ok (by omega) hn
 have e := close_eq h.ok (i := x) (by omega)
 rw [hn] at e
 refine ⟨by rw [closeR, if_neg (by omega)], h.ok.close _, ?_, ?_⟩
 ·rw [← e]; simp; omega
 ·refine (gap_uniq ?_ (fun j hj => ?_) (fun hlt => ?_)).symm
  ·rw [← e]; simp; omega
  ·rw [← e, ← h.num j (by omega)]
   have h1 : j < (m.take x).length := by simp; omega
   simp [List.getD, List.getElem?_append_left h1, List.getElem?_take, hj]
  ·rw [← e] at hlt ⊢
   have h1 : (m.take x).length = x := by simp; omega
   have h2 : (m.take x ++ m.drop (x + 1)).getD x rz = m.getD (x + 1) rz := by
    simp only [List.getD]
    rw [List.getElem?_append_right (by omega), h1, Nat.sub_self, List.getElem?_drop, Nat.add_zero]
   have h3 : x + 1 < 64 := by simp at hlt; omega
   rw [h2, h.num (x + 1) h3]
   push_cast; omega
