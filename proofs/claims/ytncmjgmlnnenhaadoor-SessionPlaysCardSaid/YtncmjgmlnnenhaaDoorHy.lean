/- Orders and hierarchies as results; calls that make own slices in a region that draws. Nothing of a program stands here. -/
import Derived.Test.YtncmjgmlnnenhaaDoorDir
import Derived.Test.YtncmjgmlnnenhaaDoorLk
namespace Go.Lx
open Go Go.RowKit
set_option linter.unusedSimpArgs false
set_option linter.unusedVariables false
set_option linter.unnecessarySimpa false
theorem mem_comp {α : Type} [BEq α] [LawfulBEq α] (x : α) : ∀ (l acc : List α), x ∈ l.foldl compStep acc ↔ x ∈ acc ∨ x ∈ l
  | [], acc => by simp
  | y :: l, acc => by
    rw [List.foldl_cons, mem_comp x l]
    unfold compStep
    split
    · rename_i h
      have hy : y ∈ acc := List.mem_of_getLast? (by simpa using h)
      constructor
      · rintro (h1 | h1)
        · exact .inl h1
        · exact .inr (by simp [h1])
      · rintro (h1 | h1)
        · exact .inl h1
        · rcases List.mem_cons.1 h1 with rfl | h1
          · exact .inl hy
          · exact .inr h1
    · simp only [List.mem_append, List.mem_cons, List.not_mem_nil, or_false]
      exact or_assoc
theorem mem_compL {α : Type} [BEq α] [LawfulBEq α] (x : α) (l : List α) : x ∈ compL l ↔ x ∈ l := by
  unfold compL; rw [mem_comp]; simp
theorem comp_len {α : Type} [BEq α] : ∀ (l acc : List α), (l.foldl compStep acc).length ≤ acc.length + l.length
  | [], acc => by simp
  | y :: l, acc => by
    rw [List.foldl_cons]
    refine Nat.le_trans (comp_len l _) ?_
    unfold compStep
    split
    · simp
    · simp; omega
theorem compL_len {α : Type} [BEq α] (l : List α) : (compL l).length ≤ l.length := by
  have := comp_len l []
  simpa [compL] using this
theorem HOk.congr {o : OV} {L M : List Pr} (h : HOk o L) (hm : ∀ x, x ∈ L ↔ x ∈ M) (hl : L.length ≤ M.length) : HOk o M :=
  ⟨h.n, fun x => (h.ps x).trans (hm x), Nat.le_trans h.le hl, h.be.congr hm⟩
section
variable {α : Type} {enc : α → List Value} {s : Nat} {e : TypeId} {β : Prop} {P : Program} {ops : Array Oper} {o : Oper} {fr : Fr} {w : World} {c : Nat → Nat} {f : FuncId} {args : Array Value} {l : List α} {kc : Nat}
theorem OpC_own (hg : o.guard = none) (h : xop P fr w o = .ok (.enter f args) w) (hk : Ok P f args w fun v' w' => Own enc s e (Fsh w w') w' v' l ∧ Ext β w w') (hd : o.dst.isSome = true := by rfl) : OpC β kc P ops o fr w c (postOwn enc s e kc l) :=
  .inl ⟨by simp [Region.wanted, hg], .inr ⟨f, args, w, h, hd, hk.mono fun v' w' ⟨h1, x⟩ => ⟨newC c w kc, StepC.ext x fun _ hb => newC_old hb, h1.mono fun b _ hb => newC_new hb.1⟩⟩⟩
end
/-- What lies in memory of no colour. -/
def KeepS (S : (Nat → Prop) → Value → World → Prop) : Prop := ∀ (F : Nat → Prop) (v : Value) (γ : Prop) (D : Nat → Prop) (w w' : World), Bel γ D w w' → (∀ b, b < w.heap.size → F b → ¬ D b) → S F v w → S F v w'
def postW (S : (Nat → Prop) → Value → World → Prop) : PostC := fun v w c => ∃ F, (∀ b, F b → b < w.heap.size ∧ c b = 0) ∧ S F v w
theorem postW_stable {S : (Nat → Prop) → Value → World → Prop} {kc : Nat} (hS : KeepS S) : StableC kc (postW S) := by
  intro v w c w' c' q hq hx ⟨F, hF, hr⟩
  refine ⟨F, fun b hb => ⟨Nat.lt_of_lt_of_le (hF b hb).1 hx.bel.size, (hx.col b (hF b hb).1).trans (hF b hb).2⟩, hS _ _ _ _ _ _ hx.bel (fun b _ hb hd => hd.1 ?_) hr⟩
  rw [← hd.2]; exact (hF b hb).2
theorem OpC_W {S : (Nat → Prop) → Value → World → Prop} {β : Prop} {k : Nat} {P : Program} {ops : Array Oper} {o : Oper} {fr : Fr} {w : World} {c : Nat → Nat} {f : FuncId} {args : Array Value} (hg : o.guard = none) (h : xop P fr w o = .ok (.enter f args) w) (hk : Ok P f args w fun v' w' => S (Fsh w w') v' w' ∧ Ext β w w') (hd : o.dst.isSome = true := by rfl) : OpC β k P ops o fr w c (postW S) :=
  .inl ⟨by simp [Region.wanted, hg], .inr ⟨f, args, w, h, hd, hk.mono fun _ w' ⟨a, b⟩ => ⟨newC c w 0, StepC.ext b fun _ hb => newC_old hb, Fsh w w', fun b hb => ⟨hb.2, newC_new hb.1⟩, a⟩⟩⟩
/-- An order behind a pointer, and no error. -/
def OdRes (L : List Pr) (F : Nat → Prop) (v : Value) (w : World) : Prop := ∃ p o, v = .tuple #[.pointer (some ⟨p, 0, none⟩), .int .i64 0] ∧ OdAt F w p o ∧ HOk o L
def OdPtr (L : List Pr) (F : Nat → Prop) (v : Value) (w : World) : Prop := ∃ p o, v = .pointer (some ⟨p, 0, none⟩) ∧ OdAt F w p o ∧ HOk o L
theorem OdRes.keepS (L : List Pr) : KeepS (OdRes L) := fun F v γ D w w' x hd ⟨p, o, h1, h2, h3⟩ => ⟨p, o, h1, h2.keep x hd, h3⟩
theorem OdPtr.keepS (L : List Pr) : KeepS (OdPtr L) := fun F v γ D w w' x hd ⟨p, o, h1, h2, h3⟩ => ⟨p, o, h1, h2.keep x hd, h3⟩
/-- A hierarchy of the links L. -/
def HyIs (w : World) (v : Value) (L : List Pr) : Prop := ∃ ph po o, v = .pointer (some ⟨ph, 0, none⟩) ∧ At w ph 0 [.pointer (some ⟨po, 0, none⟩)] ∧ OdAt (Lt w.heap.size) w po o ∧ HOk o L
theorem HyIs.ext {γ : Prop} {w w' : World} {v : Value} {L : List Pr} (h : HyIs w v L) (x : Ext γ w w') : HyIs w' v L :=
  let ⟨ph, po, o, h1, h2, h3, h4⟩ := h
  ⟨ph, po, o, h1, h2.keep x id, (h3.ext x).mono fun _ hb _ => hb, h4⟩
theorem HyIs.congr {w : World} {v : Value} {L M : List Pr} (h : HyIs w v L) (hm : ∀ x, x ∈ L ↔ x ∈ M) (hl : L.length ≤ M.length) : HyIs w v M :=
  let ⟨ph, po, o, h1, h2, h3, h4⟩ := h
  ⟨ph, po, o, h1, h2, h3, h4.congr hm hl⟩
/-- The result of a call that may hand back memory that was there. -/
theorem OpC_W2 {S : (Nat → Prop) → Value → World → Prop} {β : Prop} {k : Nat} {P : Program} {ops : Array Oper} {o : Oper} {fr : Fr} {w : World} {c : Nat → Nat} {f : FuncId} {args : Array Value} (G : Nat → Prop) (hG : ∀ b, G b → b < w.heap.size ∧ c b = 0) (hg : o.guard = none) (h : xop P fr w o = .ok (.enter f args) w) (hk : Ok P f args w fun v' w' => S (fun b => G b ∨ Fsh w w' b) v' w' ∧ Ext β w w') (hd : o.dst.isSome = true := by rfl) : OpC β k P ops o fr w c (postW S) :=
  .inl ⟨by simp [Region.wanted, hg], .inr ⟨f, args, w, h, hd, hk.mono fun _ w' ⟨a, x⟩ => ⟨newC c w 0, StepC.ext x fun _ hb => newC_old hb, _, fun b hb => by
    rcases hb with hb | hb
    · exact ⟨Nat.lt_of_lt_of_le (hG b hb).1 x.size, (newC_old (hG b hb).1).trans (hG b hb).2⟩
    · exact ⟨hb.2, newC_new hb.1⟩, a⟩⟩⟩
theorem Rd.keepS {α : Type} (enc : α → List Value) (k : Nat) (p : List α → Prop) : KeepS fun F v w => ∃ l, Rd enc k F w v l ∧ p l := fun F v γ D w w' x hd ⟨l, h1, h2⟩ => ⟨l, h1.keep x hd, h2⟩
def postAny : PostC := fun _ _ _ => True
theorem postAny_stable {k : Nat} : StableC k postAny := fun _ _ _ _ _ _ _ _ _ => trivial
/-- What a further link makes of the links L. -/
def LkP (L : List Pr) (x : Pr) (M : List Pr) : Prop := x ∈ L ∧ M = L ∨ x ∉ L ∧ InsP L x M
def LkRes (L : List Pr) (x : Pr) (F : Nat → Prop) (v : Value) (w : World) : Prop := ∃ u M e, v = .tuple #[u, .int .i64 e] ∧ Rd encPr 2 F w u M ∧ LkP L x M
theorem LkRes.keepS (L : List Pr) (x : Pr) : KeepS (LkRes L x) := fun F v γ D w w' x hd ⟨u, M, e, h1, h2, h3⟩ => ⟨u, M, e, h1, h2.keep x hd, h3⟩
theorem LkP.ok {L M : List Pr} {x : Pr} {ρ : Fin 64 → Nat} (h : LkOk L ρ) (hp : LkP L x M) (hr : ρ x.1 < ρ x.2) (hq : 1 ≤ x.1.val ∧ 1 ≤ x.2.val) : LkOk M ρ ∧ M.length ≤ L.length + 1 := by
  rcases hp with ⟨_, rfl⟩ | ⟨hn, hi⟩
  · exact ⟨h, by omega⟩
  · exact ⟨h.ins hi hn hr hq, by rw [hi.len]; omega⟩
theorem prB (z : Pr) (x y : Fin 64) : (iv z.1 == iv x && iv z.2 == iv y) = (z == (x, y)) := by
  rw [iv_beq, iv_beq]; rfl
/-- A hierarchy and no error. -/
def HyRes (L : List Pr) (v : Value) (w : World) : Prop := ∃ u, v = .tuple #[u, .int .i64 0] ∧ HyIs w u L
section
variable {P : Program} {fr : Fr} {w : World} {d : Option Nat} {t : TypeId} {ps : String} {af : Array Edge} {g : Option (Nat × Bool)}
theorem o_convU {T U : TypeId} {x : Operand} {a : W64} {n : Nat} (hP : P.underlying T = some (.int .u64)) (hP' : P.underlying U = some (.int .i64)) (hx : ev fr x = u64 a) (hn : a.toNat = n) (hl : n < 9223372036854775808) : xop P fr w ⟨d, .convert T U x, t, ps, af, g⟩ = .ok (.value (.int .i64 (n : Int))) w := by
  have h := o_conv (w := w) (d := d) (t := t) (ps := ps) (af := af) (g := g) (k' := .i64) hP hP' hx
  have e : IntKind.i64.wrap (a.toNat : Int) = (n : Int) := by rw [hn]; exact wrap_in (by unfold I64; omega)
  rw [e] at h
  exact h
end
section
variable {α : Type} {enc : α → List Value} {k : Nat} {F : Nat → Prop} {P : Program} {fr : Fr} {w : World} {d : Option Nat} {t : TypeId} {ps : String} {af : Array Edge} {g : Option (Nat × Bool)} {a : Option Addr} {c i m : Nat} {l : List α} {y : α} {T : TypeId} {x z : Operand}
/-- Into an element of a slice. -/
theorem o_faE {fs : Array Field} {f n : Nat} {G : Field} (hP : P.underlying T = some (.struct fs)) (hf : fs[f]? = some G) (hs : ∀ w, (sizeOf G.type).run P w = .ok (n + 1) w) (hr : Sl enc k F w a c l) (hx : ev fr x = .pointer (elp a m)) (hi : l[i]? = some y) :
    xop P fr w ⟨d, .fieldAddr T x f, t, ps, af, g⟩ = .ok (.value (.pointer (elp a (m + G.offset)))) w := by
  obtain ⟨b, off, rfl, _, _, _⟩ := hr.el i _ hi
  rw [elp_some] at hx ⊢
  rw [← Nat.add_assoc]
  exact o_fa hP hf hs hx
theorem o_iaE {e : TypeId} {n j s : Nat} {K : IntKind} (hP : P.underlying T = some (.array n e)) (hs : ∀ w, (sizeOf e).run P w = .ok s w) (hr : Sl enc k F w a c l) (hx : ev fr x = .pointer (elp a m)) (hi : l[i]? = some y) (hy : ev fr z = .int K (j : Int)) (hj : j < n) :
    xop P fr w ⟨d, .indexAddr T x z, t, ps, af, g⟩ = .ok (.value (.pointer (elp a (m + j * s)))) w := by
  obtain ⟨b, off, rfl, _, _, _⟩ := hr.el i _ hi
  rw [elp_some] at hx ⊢
  rw [← Nat.add_assoc]
  exact o_iaA hP hs hx hy hj
theorem o_ldE {j : Nat} {v : Value} (ha : ∀ w, (isAgg T).run P w = .ok false w) (hr : Sl enc k F w a c l) (hx : ev fr x = .pointer (elp a (i * k + j))) (hi : l[i]? = some y) (hv : (enc y)[j]? = some v) :
    xop P fr w ⟨d, .load T x, t, ps, af, g⟩ = .ok (.value v) w := by
  obtain ⟨b, off, rfl, _, h3, _⟩ := hr.el i _ hi
  rw [elp_some] at hx
  have h := h3 j v hv
  rw [Nat.add_assoc] at h
  exact o_load1 ha hx h
theorem o_ldES {j s : Nat} {cs : List Value} (ha : ∀ w, (isAgg T).run P w = .ok true w) (hs : ∀ w, (sizeOf T).run P w = .ok s w) (hr : Sl enc k F w a c l) (hx : ev fr x = .pointer (elp a (i * k + j))) (hi : l[i]? = some y) (hv : ((enc y).drop j).take s = cs) (hc : cs.length = s) :
    xop P fr w ⟨d, .load T x, t, ps, af, g⟩ = .ok (.value (.agg cs.toArray)) w := by
  obtain ⟨b, off, rfl, _, h3, _⟩ := hr.el i _ hi
  rw [elp_some] at hx
  subst hv
  have h := h3.sub j s
  rw [Nat.add_assoc] at h
  exact o_loadS ha hs hx h hc
end
theorem o_slfrom2 {P : Program} {fr : Fr} {w : World} {d : Option Nat} {t e T : TypeId} {ps : String} {af : Array Edge} {g : Option (Nat × Bool)} {x y : Operand} {a : Option Addr} {m c s j : Nat} (hP : P.underlying T = some (.slice e)) (hs : ∀ w, (sizeOf e).run P w = .ok s w) (hx : ev fr x = .slice a m c) (hj : ev fr y = .int .i64 (j : Int)) (hl : j ≤ m) (hc : m ≤ c) :
    xop P fr w ⟨d, .slice T x (some y) none none, t, ps, af, g⟩ = .ok (.value (.slice (if c = j then a else elp a (j * s)) (m - j) (c - j))) w := by
  rcases Nat.lt_or_ge j c with h | h
  · rw [if_neg (by omega)]; exact o_sfromO hP hs hx hj hl h
  · obtain rfl : c = j := by omega
    obtain rfl : m = c := by omega
    rw [if_pos rfl]
    simp [xop, execOp, hx, hj, Instr.slice, Instr.sliceAt, Instr.sliceBounds, Instr.sliceBound, asIntOf, run_underlying hP, hs, elp]
theorem o_convV {P : Program} {fr : Fr} {w : World} {d : Option Nat} {t : TypeId} {ps : String} {af : Array Edge} {g : Option (Nat × Bool)} {T U : TypeId} {x : Operand} {n : Nat} (hP : P.underlying T = some (.int .i64)) (hP' : P.underlying U = some (.int .u64)) (hx : ev fr x = .int .i64 (n : Int)) (hl : n < 18446744073709551616) : xop P fr w ⟨d, .convert T U x, t, ps, af, g⟩ = .ok (.value (u64 (BitVec.ofNat 64 n))) w := by
  have h := o_conv (w := w) (d := d) (t := t) (ps := ps) (af := af) (g := g) (k' := .u64) hP hP' hx
  rw [wrapU'] at h
  exact h
theorem rem2_lt (x : W64) : (x % 2#64).toNat < 2 := by rw [BitVec.toNat_umod]; exact Nat.mod_lt _ (by decide)
theorem rem6_lt (x : W64) : (x % 6#64).toNat < 6 := by rw [BitVec.toNat_umod]; exact Nat.mod_lt _ (by decide)
theorem ord_eq (a b k : Nat) : ((1 : Int) + (((k : Int) * (1 + 4 * (a : Int)) + (b : Int)).toNat % 6 : Nat)) = ((ordN a b k : Nat) : Int) := by
  have e : ((k : Int) * (1 + 4 * (a : Int)) + (b : Int)) = ((k * (1 + 4 * a) + b : Nat) : Int) := by push_cast; rfl
  rw [e, Int.toNat_natCast]
  unfold ordN
  push_cast; rfl
theorem mul_small {k a : Nat} (hk : k < 6) (ha : a < 2) : 0 ≤ (k : Int) * (1 + 4 * (a : Int)) ∧ (k : Int) * (1 + 4 * (a : Int)) ≤ 25 := by
  have h : (k : Int) * (1 + 4 * (a : Int)) = ((k * (1 + 4 * a) : Nat) : Int) := by push_cast; rfl
  have h2 : k * (1 + 4 * a) ≤ 5 * 5 := Nat.mul_le_mul (by omega) (by omega)
  omega
def ordL (a b n : Nat) : List Int := (List.range n).map fun i => (ordN a b i : Int)
theorem ordL_succ (a b k : Nat) : ordL a b (k + 1) = ordL a b k ++ [((ordN a b k : Nat) : Int)] := by simp [ordL, List.range_succ]
theorem ordL_get {a b n i : Nat} (h : i < n) : (ordL a b n)[i]? = some (iv (ordF a b i)) := by
  simp [ordL, h]; rfl
def rkF (a b : Nat) (c : Fin 64) : Nat := rkN a b c.val
theorem rkF_lt {a b i k : Nat} (ha : a < 2) (hb : b < 6) (hik : i < k) (hk : k < 6) : rkF a b (ordF a b i) < rkF a b (ordF a b k) := by
  show rkN a b (ordN a b i) < rkN a b (ordN a b k)
  rw [rk_ord a ha b hb i (by omega), rk_ord a ha b hb k hk]; exact hik
theorem ordF_pos (a b i : Nat) : 1 ≤ (ordF a b i).val := (ordN_lt a b i).1
def SvIs (e : W64) (F : Nat → Prop) (v : Value) (w : World) : Prop := ∃ a c, v = .agg (encSV ⟨a, c, e⟩).toArray ∧ Sl encU 1 F w a c (wl e)
theorem SvIs.keepS (e : W64) : KeepS (SvIs e) := fun F v γ D w w' x hd ⟨a, c, h1, h2⟩ => ⟨a, c, h1, h2.keep x hd⟩
/-- What lies in memory of colour kc. -/
def postK (kc : Nat) (S : (Nat → Prop) → Value → World → Prop) : PostC := fun v w c => ∃ F, (∀ b, F b → b < w.heap.size ∧ c b = kc) ∧ S F v w
theorem postK_stable {S : (Nat → Prop) → Value → World → Prop} {kc : Nat} (hS : KeepS S) : StableC kc (postK kc S) := by
  intro v w c w' c' q hq hx ⟨F, hF, hr⟩
  refine ⟨F, fun b hb => ⟨Nat.lt_of_lt_of_le (hF b hb).1 hx.bel.size, (hx.col b (hF b hb).1).trans (hF b hb).2⟩, hS _ _ _ _ _ _ hx.bel (fun b _ hb hd => ?_) hr⟩
  have h1 := (hF b hb).2
  rcases hq with h | h
  · exact hd.1 h
  · exact h (by rw [← hd.2, h1])
theorem OpC_K {S : (Nat → Prop) → Value → World → Prop} {β : Prop} {kc k : Nat} {P : Program} {ops : Array Oper} {o : Oper} {fr : Fr} {w : World} {c : Nat → Nat} {f : FuncId} {args : Array Value} (hg : o.guard = none) (h : xop P fr w o = .ok (.enter f args) w) (hk : Ok P f args w fun v' w' => S (Fsh w w') v' w' ∧ Ext β w w') (hd : o.dst.isSome = true := by rfl) : OpC β k P ops o fr w c (postK kc S) :=
  .inl ⟨by simp [Region.wanted, hg], .inr ⟨f, args, w, h, hd, hk.mono fun _ w' ⟨a, b⟩ => ⟨newC c w kc, StepC.ext b fun _ hb => newC_old hb, Fsh w w', fun b hb => ⟨hb.2, newC_new hb.1⟩, a⟩⟩⟩
theorem o_convB8 {P : Program} {fr : Fr} {w : World} {d : Option Nat} {t : TypeId} {ps : String} {af : Array Edge} {g : Option (Nat × Bool)} {T U : TypeId} {x : Operand} {b : UInt8} (hP : P.underlying T = some (.int .u8)) (hP' : P.underlying U = some (.int .u64)) (hx : ev fr x = .int .u8 (b.toNat : Int)) : xop P fr w ⟨d, .convert T U x, t, ps, af, g⟩ = .ok (.value (u64 (BitVec.ofNat 64 b.toNat))) w := by
  have h := o_conv (w := w) (d := d) (t := t) (ps := ps) (af := af) (g := g) (k' := .u64) hP hP' hx
  rw [wrapU'] at h
  exact h
end Go.Lx
