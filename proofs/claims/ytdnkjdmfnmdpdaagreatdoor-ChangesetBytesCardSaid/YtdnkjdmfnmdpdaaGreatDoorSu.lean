/- Several texts in one file. -/
import Derived.Test.YtdnkjdmfnmdpdaaGreatDoorCs
import Derived.Test.YtdnkjdmfnmdpdaaGreatDoorSe
import Derived.Test.YtdnkjdmfnmdpdaaGreatDoorTz
import Derived.Lib.ItoaNum
import Derived.Test.YtdnkjdmfnmdpdaaGreatDoorBase
import Derived.Test.YtdnkjdmfnmdpdaaGreatDoorPure11g
import Derived.Test.YtdnkjdmfnmdpdaaGreatDoorOwn
set_option linter.unusedSimpArgs false
set_option linter.unusedVariables false
set_option linter.unnecessarySimpa false
/- More of what the reference's states are made of. Nothing of a program stands here. -/
namespace Go.Lx
open Go Go.RowKit
theorem Byt.blk {F D : Nat → Prop} {γ : Prop} {w w' : World} {b N : Nat} {T : TypeId} (h : Byt F w b T N) (e : w'.heap[b]? = w.heap[b]?) (x : Bel γ D w w') (hF : ∀ g, g < w.heap.size → F g → ¬ D g) : Byt F w' b T N :=
  let ⟨a, c, l, n, h1, h2, h3⟩ := h
  ⟨a, c, l, n, h1.blk e, h2, h3.keep x hF⟩
def postByt (kc : Nat) (F : Nat → Prop) (b : Nat) (T : TypeId) (N : Nat) (S : (Nat → Prop) → Value → World → Prop) : PostC := fun v w c => (∃ F', (∀ g, F' g → g < w.heap.size ∧ c g = 0) ∧ S F' v w) ∧ Byt F w b T N ∧ c b = kc ∧ ∀ g, F g → g < b ∧ c g = 0
theorem postByt_stable {kc : Nat} {F : Nat → Prop} {b N : Nat} {T : TypeId} {S : (Nat → Prop) → Value → World → Prop} (hS : KeepS S) : StableC kc (postByt kc F b T N S) := by
  rintro v w c w' c' q hq hx ⟨⟨F', hF', hr⟩, hb, hcb, hF⟩
  have hbl := hb.lt
  have h0 : ∀ g, c g = 0 → ¬ (q ≠ 0 ∧ c g = q) := fun g hg hd => hd.1 (by rw [← hd.2]; exact hg)
  refine ⟨⟨F', fun g hg => ⟨Nat.lt_of_lt_of_le (hF' g hg).1 hx.bel.size, (hx.col g (hF' g hg).1).trans (hF' g hg).2⟩, hS _ _ _ _ _ _ hx.bel (fun g _ hg => h0 g (hF' g hg).2) hr⟩, hb.keep hx.bel (fun hd => ?_) (fun g _ hg => h0 g (hF g hg).2), (hx.col b hbl).trans hcb, fun g hg => ⟨(hF g hg).1, (hx.col g (Nat.lt_trans (hF g hg).1 hbl)).trans (hF g hg).2⟩⟩
  rcases hq with h | h
  · exact hd.1 h
  · exact h (hd.2.symm.trans hcb)
theorem OpC_byt {kc : Nat} {F : Nat → Prop} {b N : Nat} {T : TypeId} {S : (Nat → Prop) → Value → World → Prop} {P : Program} {ops : Array Oper} {o : Oper} {fr : Fr} {w : World} {c : Nat → Nat} {f : FuncId} {args : Array Value} (hkc : kc ≠ 0) (hb : b < w.heap.size) (hcb : c b = kc) (hF : ∀ g, F g → g < b ∧ c g = 0) (hg : o.guard = none) (h : xop P fr w o = .ok (.enter f args) w)
    (hk : Ok P f args w fun v' w' => S (Fsh w w') v' w' ∧ Byt F w' b T N ∧ Bel False (fun g => g = b) w w') (hd : o.dst.isSome = true := by rfl) : OpC False kc P ops o fr w c (postByt kc F b T N S) :=
  .inl ⟨by simp [Region.wanted, hg], .inr ⟨f, args, w, h, hd, hk.mono fun v' w' ⟨h1, h2, x⟩ => ⟨newC c w 0, ⟨x.mono fun g _ hgb => ⟨hkc, by rw [hgb]; exact hcb⟩, fun _ hb => newC_old hb⟩, ⟨Fsh w w', fun g hg => ⟨hg.2, newC_new hg.1⟩, h1⟩, h2, (newC_old hb).trans hcb, fun g hg => ⟨(hF g hg).1, (newC_old (Nat.lt_trans (hF g hg).1 hb)).trans (hF g hg).2⟩⟩⟩⟩
def ListIs {α : Type} (enc : α → List Value) (k n : Nat) (S : List α → Prop) (F : Nat → Prop) (v : Value) (w : World) : Prop := (∀ g, F g → n ≤ g) ∧ ∃ M, Rd enc k F w v M ∧ S M
def TupIs {α : Type} (enc : α → List Value) (k n : Nat) (S : List α → Prop) (F : Nat → Prop) (v : Value) (w : World) : Prop := ∃ u e, v = .tuple #[u, .int .i64 e] ∧ ListIs enc k n S F u w
def Tup3Is {α : Type} (enc : α → List Value) (k n : Nat) (S : List α → Prop) (F : Nat → Prop) (v : Value) (w : World) : Prop := ∃ u e d, v = .tuple #[u, .int .i64 e, .int .i64 d] ∧ ListIs enc k n S F u w
theorem ListIs.keepS {α : Type} (enc : α → List Value) (k n : Nat) (S : List α → Prop) : KeepS (ListIs enc k n S) := fun F v γ D w w' x hd ⟨h1, M, h2, h3⟩ => ⟨h1, M, h2.keep x hd, h3⟩
theorem TupIs.keepS {α : Type} (enc : α → List Value) (k n : Nat) (S : List α → Prop) : KeepS (TupIs enc k n S) := fun F v γ D w w' x hd ⟨u, e, h1, h2⟩ => ⟨u, e, h1, ListIs.keepS enc k n S F u γ D w w' x hd h2⟩
theorem Tup3Is.keepS {α : Type} (enc : α → List Value) (k n : Nat) (S : List α → Prop) : KeepS (Tup3Is enc k n S) := fun F v γ D w w' x hd ⟨u, e, d, h1, h2⟩ => ⟨u, e, d, h1, ListIs.keepS enc k n S F u γ D w w' x hd h2⟩
def postP (p : Value → Prop) : PostC := fun v _ _ => p v
theorem J2 {p : Value → Prop} {kc : Nat} : StableC kc (postP p) := fun _ _ _ _ _ _ _ _ h => h
theorem OpC_callP {p : Value → Prop} {β : Prop} {k : Nat} {P : Program} {ops : Array Oper} {o : Oper} {fr : Fr} {w : World} {c : Nat → Nat} {f : FuncId} {args : Array Value} (hg : o.guard = none) (h : xop P fr w o = .ok (.enter f args) w) (hk : Ok P f args w fun v' w' => p v' ∧ Ext β w w') (hd : o.dst.isSome = true := by rfl) : OpC β k P ops o fr w c (postP p) :=
  .inl ⟨by simp [Region.wanted, hg], .inr ⟨f, args, w, h, hd, hk.mono fun _ w' ⟨a, b⟩ => ⟨c, StepC.ext b fun _ _ => rfl, a⟩⟩⟩
theorem Own.keepS1 {α : Type} (enc : α → List Value) (k : Nat) (T : TypeId) (S : List α → Prop) : KeepS (fun F v w => ∃ l, Own enc k T F w v l ∧ S l) := fun F v γ D w w' x hd ⟨l, h1, h2⟩ => ⟨l, Own.keepD h1 x hd, h2⟩
theorem lk7 : ∀ k < 7, ((([(1, 2), (1, 3), (2, 3), (1, 4), (2, 4), (3, 4), (5, 6)] : List Pr).getD k (0, 0)).1.val < (([(1, 2), (1, 3), (2, 3), (1, 4), (2, 4), (3, 4), (5, 6)] : List Pr).getD k (0, 0)).2.val) ∧ 1 ≤ (([(1, 2), (1, 3), (2, 3), (1, 4), (2, 4), (3, 4), (5, 6)] : List Pr).getD k (0, 0)).1.val := by decide
theorem f18_pack {w : World} {b : Nat} {T : TypeId} {o n : Int} {a a2 : Option Addr} {m c m2 c2 : Nat} (h : Box w b T [.int .i64 o, .int .i64 n, .slice a m c, .slice a2 m2 c2]) : ∃ f : F18, Box w b T (encF18 f) := ⟨⟨o, n, a, m, c, a2, m2, c2⟩, h⟩
theorem c18_pack {w : World} {b : Nat} {T : TypeId} {e : Bool} {k o n : Int} {s : Str} {a a2 : Option Addr} {m c m2 c2 : Nat} (h : Box w b T [.bool e, .int .i64 k, str s, .int .i64 o, .int .i64 n, .slice a m c, .slice a2 m2 c2]) : ∃ x : C18, Box w b T (encC18 x) := ⟨⟨e, k, s, ⟨o, n, a, m, c, a2, m2, c2⟩⟩, h⟩
theorem OpC.mono2 {β : Prop} {k : Nat} {P : Program} {ops : Array Oper} {o : Oper} {fr : Fr} {w : World} {c : Nat → Nat} {S S' : PostC} (h : OpC β k P ops o fr w c S) (hs : ∀ v w' c', StepC β k w c w' c' → S v w' c' → S' v w' c') : OpC β k P ops o fr w c S' := by
  rcases h with ⟨h1, h2⟩ | ⟨h1, h2⟩
  · left
    refine ⟨h1, ?_⟩
    rcases h2 with ⟨v, w', c', g1, g2, g3⟩ | ⟨f, args, w0, g1, g0, g2⟩
    · exact .inl ⟨v, w', c', g1, g2, hs _ _ _ g2 g3⟩
    · exact .inr ⟨f, args, w0, g1, g0, g2.mono fun v w' ⟨c', a, b⟩ => ⟨c', a, hs _ _ _ a b⟩⟩
  · exact .inr ⟨h1, hs _ _ _ (StepC.rfl' _ _ _) h2⟩
def postSs (kc b : Nat) (T : TypeId) (f : Value → List Value) (S : (Nat → Prop) → Value → World → Prop) : PostC := fun _ w c => ∃ u, Box w b T (f u) ∧ c b = kc ∧ ∃ F', (∀ g, F' g → g < w.heap.size ∧ c g = 0) ∧ S F' u w
theorem postSs_stable {kc b : Nat} {T : TypeId} {f : Value → List Value} {S : (Nat → Prop) → Value → World → Prop} (hS : KeepS S) : StableC kc (postSs kc b T f S) := by
  rintro v w c w' c' q hq hx ⟨u, h1, h2, F', hF', hr⟩
  refine ⟨u, h1.keep hx.bel fun hd => ?_, (hx.col b h1.lt).trans h2, F', fun g hg => ⟨Nat.lt_of_lt_of_le (hF' g hg).1 hx.bel.size, (hx.col g (hF' g hg).1).trans (hF' g hg).2⟩, hS _ _ _ _ _ _ hx.bel (fun g _ hg hd => hd.1 (by rw [← hd.2]; exact (hF' g hg).2)) hr⟩
  rcases hq with h | h
  · exact hd.1 h
  · exact h (hd.2.symm.trans h2)
theorem postSs_of {β : Prop} {kc b : Nat} {T : TypeId} {f : Value → List Value} {S : (Nat → Prop) → Value → World → Prop} {P : Program} {ops : Array Oper} {o : Oper} {fr : Fr} {w : World} {c : Nat → Nat} {cs : List Value} {F' : Nat → Prop} {u : Value} (hS : KeepS S) (h : OpC β kc P ops o fr w c (postAt b kc T cs)) (e : cs = f u) (hF' : ∀ g, F' g → g < w.heap.size ∧ c g = 0) (hr : S F' u w) : OpC β kc P ops o fr w c (postSs kc b T f S) :=
  h.mono2 fun v w' c' hx ⟨h1, h2⟩ => ⟨u, e ▸ h1, h2, F', fun g hg => ⟨Nat.lt_of_lt_of_le (hF' g hg).1 hx.bel.size, (hx.col g (hF' g hg).1).trans (hF' g hg).2⟩, hS _ _ _ _ _ _ hx.bel (fun g _ hg hd => hd.1 (by rw [← hd.2]; exact (hF' g hg).2)) hr⟩
theorem wrap_u64 {n : Nat} (h : n < 18446744073709551616) : IntKind.u64.wrap (n : Int) = (n : Int) := by
  rw [wrapU', BitVec.toNat_ofNat, Nat.mod_eq_of_lt h]
theorem st_pack {F : Nat → Prop} {w : World} {U R X Y Z : Value} {ad : W64} {aL aM aG : Option Addr} {cL cM cG : Nat} {L : List Pr} {M : List E12} {G : List Ent} (hL : Sl encPr 2 F w aL cL L) (hM : Sl encA12 3 F w aM cM M) (hG : Sl encE 4 F w aG cG G) (hk : OkG G) (h1 : L.length ≤ 10000) (h2 : M.length ≤ 10000) : StIs F w (.agg (stC 10 U R ad (.slice aL L.length cL) (.slice aM M.length cM) (.slice aG G.length cG) X Y Z).toArray) :=
  ⟨U, R, ad, X, Y, Z, aL, cL, L, aM, cM, M, aG, cG, G, rfl, hL, hM, hG, hk, h1, h2⟩
def StS (F : Nat → Prop) (w : World) (v : Value) : Prop := ∃ aU nU cU aR nR cR ad aX nX cX aY nY cY aZ nZ cZ aL cL L aM cM M aG cG G, v = .agg (stC 10 (.slice aU nU cU) (.slice aR nR cR) ad (.slice aL (L : List Pr).length cL) (.slice aM (M : List E12).length cM) (.slice aG (G : List Ent).length cG) (.slice aX nX cX) (.slice aY nY cY) (.slice aZ nZ cZ)).toArray ∧
  Sl encPr 2 F w aL cL L ∧ Sl encA12 3 F w aM cM M ∧ Sl encE 4 F w aG cG G ∧ OkG G ∧ L.length ≤ 1000 ∧ M.length ≤ 1000
theorem sts_pack {F : Nat → Prop} {w : World} {aU aR aX aY aZ : Option Addr} {nU nR nX nY nZ cU cR cX cY cZ : Nat} {ad : W64} {aL aM aG : Option Addr} {cL cM cG : Nat} {L : List Pr} {M : List E12} {G : List Ent} (hL : Sl encPr 2 F w aL cL L) (hM : Sl encA12 3 F w aM cM M) (hG : Sl encE 4 F w aG cG G) (hk : OkG G) (h1 : L.length ≤ 1000) (h2 : M.length ≤ 1000) : StS F w (.agg (stC 10 (.slice aU nU cU) (.slice aR nR cR) ad (.slice aL L.length cL) (.slice aM M.length cM) (.slice aG G.length cG) (.slice aX nX cX) (.slice aY nY cY) (.slice aZ nZ cZ)).toArray) :=
  ⟨aU, nU, cU, aR, nR, cR, ad, aX, nX, cX, aY, nY, cY, aZ, nZ, cZ, aL, cL, L, aM, cM, M, aG, cG, G, rfl, hL, hM, hG, hk, h1, h2⟩
theorem four {d : Nat} (h : 1 ≤ d) : 4 ^ d = 4 * 4 ^ (d - 1) ∧ 1 ≤ 4 ^ (d - 1) := by
  obtain ⟨e, rfl⟩ : ∃ e, d = e + 1 := ⟨d - 1, by omega⟩
  exact ⟨by rw [Nat.pow_succ, Nat.add_sub_cancel, Nat.mul_comm], Nat.pow_pos (by decide)⟩
end Go.Lx
/- Raw ops, and ops that are made of them. Nothing of a program stands here. -/
namespace Go.Lx
open Go
structure RawC where
  add : Bool
  old : Bool
  k : UInt8
  a : UInt8
  b : UInt8
  u : UInt8
def encRaw (x : RawC) : List Value := [.bool x.add, .bool x.old, .int .u8 (x.k.toNat : Int), .int .u8 (x.a.toNat : Int), .int .u8 (x.b.toNat : Int), .int .u8 (x.u.toNat : Int)]
def rcz : RawC := ⟨false, false, 0, 0, 0, 0⟩
theorem ro_packK {w : World} {b : Nat} {T : TypeId} {x d : Bool} {k a c u : Int} {s1 s2 : Str} (h : Box w b T [.bool x, .int .i64 k, .int .i64 a, .int .i64 c, .int .i64 u, str s1, str s2, .bool d]) : ∃ o : COp, Box w b T (encRo o) ∧ o.p = ⟨s1, s2, d⟩ ∧ o.k = k := ⟨⟨x, k, a, c, u, ⟨s1, s2, d⟩⟩, h, rfl, rfl⟩
theorem JL {M : List E12} {G : List Ent} {L : List Pr} : ∀ o ∈ thingsO M G L, 1 ≤ o.k ∧ o.k ≤ 3 := by
  intro o ho
  unfold thingsO at ho
  rw [List.mem_append, List.mem_append] at ho
  rcases ho with (ho | ho) | ho
  · obtain ⟨e, _, rfl⟩ := List.mem_map.1 ho; show (1 : Int) ≤ 1 ∧ (1 : Int) ≤ 3; decide
  · obtain ⟨e, _, rfl⟩ := List.mem_map.1 ho; show (1 : Int) ≤ 2 ∧ (2 : Int) ≤ 3; decide
  · obtain ⟨e, _, rfl⟩ := List.mem_map.1 ho; show (1 : Int) ≤ 3 ∧ (3 : Int) ≤ 3; decide
def RoK (o : COp) : Prop := o.p.ok ∧ 0 ≤ o.k ∧ o.k ≤ 255
section
variable {P : Program} {fr : Fr} {w : World} {d : Option Nat} {t : TypeId} {ps : String} {af : Array Edge} {g : Option (Nat × Bool)} {x y : Operand} {T U : TypeId}
theorem o_rem8 {a b : Nat} (hx : ev fr x = .int .u8 (a : Int)) (hy : ev fr y = .int .u8 (b : Int)) (hb : 0 < b) (ha : a < 256) : xop P fr w ⟨d, .binOp .rem T x y U, t, ps, af, g⟩ = .ok (.value (.int .u8 ((a % b : Nat) : Int))) w := by
  have h0 : (b : Int) ≠ 0 := by omega
  have e2 : (a : Int).tmod (b : Int) = ((a % b : Nat) : Int) := by rw [Int.tmod_eq_emod_of_nonneg (by omega)]; rfl
  have h3 : a % b ≤ a := Nat.mod_le _ _
  have e1 : IntKind.u8.wrap ((a % b : Nat) : Int) = ((a % b : Nat) : Int) := wrap_k8 (by omega) (by omega)
  simp only [xop, execOp, hx, hy, eqGuard, binOp, Op.intDiv, h0, e2, e1, if_false]
  simp [e1]
end
end Go.Lx
/- Merges: the chapter's examples, and lists that lie in variables made by a region that draws. Nothing of a program stands here. -/
namespace Go.Lx
open Go
def awO (x : Bool) (u n : Int) : COp := ⟨x, 1, u, 2, n, pz⟩
def postBoxS (w0 : World) (T : TypeId) (f : Value → List Value) (S : (Nat → Prop) → Value → World → Prop) (kc : Nat) : PostC := fun v w c => ∃ b, v = .pointer (some ⟨b, 0, none⟩) ∧ w0.heap.size ≤ b ∧ c b = kc ∧ ∃ u, Box w b T (f u) ∧ ∃ F', (∀ g, F' g → g < w.heap.size ∧ c g = 0) ∧ S F' u w
theorem postBoxS_stable {w0 : World} {T : TypeId} {f : Value → List Value} {S : (Nat → Prop) → Value → World → Prop} {kc : Nat} (hS : KeepS S) : StableC kc (postBoxS w0 T f S kc) := by
  rintro v w c w' c' q hq hx ⟨b, h1, h2, h4, u, h3, F', hF', hr⟩
  exact ⟨b, h1, h2, (hx.col b h3.lt).trans h4, u, h3.keep hx.bel fun hd => hq.elim hd.1 (fun h => h (by rw [← hd.2]; exact h4)), F', fun g hg => ⟨Nat.lt_of_lt_of_le (hF' g hg).1 hx.bel.size, (hx.col g (hF' g hg).1).trans (hF' g hg).2⟩, hS _ _ _ _ _ _ hx.bel (fun g _ hg hd => hd.1 (by rw [← hd.2]; exact (hF' g hg).2)) hr⟩
theorem postBoxS_of {w0 : World} {T : TypeId} {f : Value → List Value} {S : (Nat → Prop) → Value → World → Prop} {kc : Nat} {β : Prop} {P : Program} {ops : Array Oper} {o : Oper} {fr : Fr} {w : World} {c : Nat → Nat} {cs : List Value} {F' : Nat → Prop} {u : Value} (hS : KeepS S) (h : OpC β kc P ops o fr w c (postBoxK w0 T cs kc)) (e : cs = f u) (hF' : ∀ g, F' g → g < w.heap.size ∧ c g = 0) (hr : S F' u w) : OpC β kc P ops o fr w c (postBoxS w0 T f S kc) :=
  h.mono2 fun v w' c' hx ⟨b, h1, h2, h3, h4⟩ => ⟨b, h1, h2, h4, u, e ▸ h3, F', fun g hg => ⟨Nat.lt_of_lt_of_le (hF' g hg).1 hx.bel.size, (hx.col g (hF' g hg).1).trans (hF' g hg).2⟩, hS _ _ _ _ _ _ hx.bel (fun g _ hg hd => hd.1 (by rw [← hd.2]; exact (hF' g hg).2)) hr⟩
def SetIs (n : Nat) (l : List COp) (F : Nat → Prop) (v : Value) (w : World) : Prop := (∀ g, F g → n ≤ g) ∧ ∃ a c, v = .agg #[.slice a l.length c] ∧ Sl encCo 8 F w a c l
def TSetIs (n : Nat) (l : List COp) (e : Int) (F : Nat → Prop) (v : Value) (w : World) : Prop := (∀ g, F g → n ≤ g) ∧ ∃ a c, v = .tuple #[.agg #[.slice a l.length c], .int .i64 e] ∧ Sl encCo 8 F w a c l
theorem SetIs.keepS (n : Nat) (l : List COp) : KeepS (SetIs n l) := fun F v γ D w w' x hd ⟨h0, a, c, h1, h2⟩ => ⟨h0, a, c, h1, h2.keep x hd⟩
theorem TSetIs.keepS (n : Nat) (l : List COp) (e : Int) : KeepS (TSetIs n l e) := fun F v γ D w w' x hd ⟨h0, a, c, h1, h2⟩ => ⟨h0, a, c, h1, h2.keep x hd⟩
end Go.Lx
/- Merges with the sides exchanged; all conflicts decided for one side. Nothing of a program stands here. -/
namespace Go.Lx
open Go
end Go.Lx
/- Sets of ops one after the other: what a key had and has. Nothing of a program stands here. -/
namespace Go.Lx
open Go
def lastN (l : List COp) (κ : OKey) (b : Bool) : Nat → Option Nat
  | 0 => none
  | n + 1 => if (l.getD n coz).key = κ ∧ (l.getD n coz).add = b then some n else lastN l κ b n
def lastK (l : List COp) (κ : OKey) (b : Bool) : Option Nat := lastN l κ b l.length
def px (a : Option Addr) (i : Option Nat) : Option Addr := i.bind fun i => elp a (i * 8)
theorem lastN_lt {l : List COp} {κ : OKey} {b : Bool} {i : Nat} : ∀ {n : Nat}, lastN l κ b n = some i → i < n ∧ (l.getD i coz).key = κ ∧ (l.getD i coz).add = b
  | 0, h => by cases h
  | n + 1, h => by
    unfold lastN at h
    split at h
    · rename_i hc
      obtain rfl : n = i := by simpa using h
      exact ⟨Nat.lt_succ_self _, hc⟩
    · obtain ⟨h1, h2⟩ := lastN_lt h
      exact ⟨Nat.lt_succ_of_lt h1, h2⟩
def opK (l : List COp) (κ : OKey) (b : Bool) : Option COp := (lastK l κ b).map fun i => l.getD i coz
def flipO (o : COp) : COp := { o with add := !o.add }
def invO (l : List COp) : List COp := sortO (l.map flipO)
theorem Vo.flip {o : COp} (h : Vo o) : Vo (flipO o) := ⟨h.ok, h.chk⟩
theorem inv_get {X : List COp} {k : Nat} (h : k < X.length) : ((X.take k).map flipO ++ X.drop k)[k]? = some (X.getD k coz) := by
  rw [List.getElem?_append_right (by simp; omega)]
  simp [List.getD, h, Nat.min_eq_left (Nat.le_of_lt h)]
theorem inv_set {X : List COp} {k : Nat} (h : k < X.length) : ((X.take k).map flipO ++ X.drop k).set k (flipO (X.getD k coz)) = (X.take (k + 1)).map flipO ++ X.drop (k + 1) := by
  have e1 : ((X.take k).map flipO).length = k := by rw [List.length_map, List.length_take]; omega
  rw [List.set_append_right _ _ (by omega), e1, Nat.sub_self, List.drop_eq_getElem_cons h, List.set_cons_zero, takeD (z := coz) h, List.map_append, List.append_assoc]
  rfl
def thenO (r1 a1 r2 a2 : Option COp) : List COp × Bool :=
  let known := r1.isSome || a1.isSome
  let before := if known then r1 else r2
  let middle := if known then a1 else r2
  if (known && r2.isSome && (middle.isNone || (middle.getD coz).u != (r2.getD coz).u)) || (known && r2.isNone && a2.isSome && middle.isSome) then ([], false) else
  let after := if r2.isSome || a2.isSome then a2 else middle
  if before.isSome && after.isSome && (before.getD coz).u == (after.getD coz).u then ([], true) else
  ((before.toList.map fun o => { o with add := false }) ++ (after.toList.map fun o => { o with add := true }), true)
def lineO (o : COp) (n : Int → Str) (t : Perm → Str) : Str :=
  (if o.add then [43, 32] else [45, 32]) ++ ((if o.k = 1 then [117, 115, 101, 114, 32] ++ n o.a ++ [32, 114, 111, 108, 101, 32] ++ n o.b ++ [32, 117, 110, 116, 105, 108, 32] ++ n o.u
   else if o.k = 2 then [114, 111, 108, 101, 32] ++ n o.a ++ [32] ++ t o.p else [114, 111, 108, 101, 32] ++ n o.a ++ [32, 111, 118, 101, 114, 32] ++ n o.b) ++ [10])
def dig (n : Int) : Str := Lib.decDigits n.toNat
def txtO (X : List COp) (n : Int → Str) (t : Perm → Str) (k : Nat) : Str := (X.take k).flatMap fun o => lineO o n t
theorem JE {X : List COp} {n : Int → Str} {t : Perm → Str} {k : Nat} (h : k < X.length) : txtO X n t (k + 1) = txtO X n t k ++ lineO (X.getD k coz) n t := by
  unfold txtO
  rw [takeD (z := coz) h, List.flatMap_append]; simp
def takeT (l m : List COp) : Nat → List COp
  | 0 => []
  | 1 => l
  | _ => l ++ m
theorem o_idx2 {P : Program} {fr : Fr} {w : World} {d : Option Nat} {t : TypeId} {ps : String} {af : Array Edge} {g : Option (Nat × Bool)} {x y : Operand} {T : TypeId} {p q : Value} {k : Nat} {e : TypeId} (hT : P.underlying T = some (.array 2 e)) (ha : ∀ w, (isAgg e).run P w = .ok false w) (hs : ∀ w, (sizeOf e).run P w = .ok 1 w) (hx : ev fr x = .agg #[p, q]) (hy : ev fr y = .int .i64 (k : Int)) (hk : k < 2) :
    xop P fr w ⟨d, .index T x y, t, ps, af, g⟩ = .ok (.value (if k = 0 then p else q)) w := by
  match k, hk with
  | 0, _ => simp [xop, execOp, hx, hy, Instr.index, run_underlying hT, asIntOf, part, ha, hs]
  | 1, _ => simp [xop, execOp, hx, hy, Instr.index, run_underlying hT, asIntOf, part, ha, hs]
theorem o_idx20 {P : Program} {fr : Fr} {w : World} {d : Option Nat} {t : TypeId} {ps : String} {af : Array Edge} {g : Option (Nat × Bool)} {x y : Operand} {T : TypeId} {p q : Value} {e : TypeId} (hT : P.underlying T = some (.array 2 e)) (ha : ∀ w, (isAgg e).run P w = .ok false w) (hs : ∀ w, (sizeOf e).run P w = .ok 1 w) (hx : ev fr x = .agg #[p, q]) (hy : ev fr y = .int .i64 ((0 : Nat) : Int)) : xop P fr w ⟨d, .index T x y, t, ps, af, g⟩ = .ok (.value p) w := o_idx2 hT ha hs hx hy (by decide)
theorem o_idx21 {P : Program} {fr : Fr} {w : World} {d : Option Nat} {t : TypeId} {ps : String} {af : Array Edge} {g : Option (Nat × Bool)} {x y : Operand} {T : TypeId} {p q : Value} {e : TypeId} (hT : P.underlying T = some (.array 2 e)) (ha : ∀ w, (isAgg e).run P w = .ok false w) (hs : ∀ w, (sizeOf e).run P w = .ok 1 w) (hx : ev fr x = .agg #[p, q]) (hy : ev fr y = .int .i64 ((1 : Nat) : Int)) : xop P fr w ⟨d, .index T x y, t, ps, af, g⟩ = .ok (.value q) w := o_idx2 hT ha hs hx hy (by decide)
end Go.Lx
/- Two sets one after the other, key by key: plain laws. Nothing of a program stands here. -/
namespace Go.Lx
open Go
theorem comp_insK {l l' : List OKey} (hv : ∀ x ∈ l, Wk x) (hp : l'.Perm l) (hs : l'.Pairwise (fun x y => cmpK x y ≤ 0)) : compL l' = insAll cmpK l := by
  have hv' : ∀ x ∈ l', Wk x := fun x hx => hv x (hp.mem_iff.1 hx)
  have h1 := wkL_map l hv
  have h2 := wkL_map l' hv'
  generalize wkL l hv = a at h1
  generalize wkL l' hv' = b at h2
  subst h1 h2
  rw [List.pairwise_map] at hs
  have hi : ∀ a b : WK, a.1 = b.1 → a = b := fun a b h => Subtype.ext h
  have hm : ∀ (l : List WK) (x : WK), x ∈ l ↔ x.1 ∈ l.map (fun y => y.1) := by
    intro l x
    rw [List.mem_map]
    exact ⟨fun h => ⟨x, h, rfl⟩, fun ⟨y, h, e⟩ => hi y x e ▸ h⟩
  have hp' : ∀ x, x ∈ b ↔ x ∈ a := fun x => by rw [hm b, hm a]; exact hp.mem_iff
  have := comp_ins cmpK_is hp' hs
  have e1 := compFold_map (m := fun x : WK => x.1) hi b []
  have e2 := insFold_map (f := cmpK) (m := fun x : WK => x.1) hi a []
  exact e1.trans ((congrArg (List.map fun x : WK => x.1) this).trans e2.symm)
def keysU (X Y : List COp) : List OKey := insAll cmpK (keysO X ++ keysO Y)
def thK (X Y : List COp) (κ : OKey) : List COp × Bool := thenO (opK X κ false) (opK X κ true) (opK Y κ false) (opK Y κ true)
def thF (X Y : List COp) (K : List OKey) : List COp := K.flatMap fun κ => (thK X Y κ).1
def thenS (X Y : List COp) : List COp × Int := if (keysU X Y).all (fun κ => (thK X Y κ).2) then ofO (thF X Y (keysU X Y)) else ([], 7)
theorem keysU_of {X Y : List COp} (hX : VS X) (hY : VS Y) {m : List OKey} (hp : m.Perm (keysO X ++ keysO Y)) (hs : m.Pairwise fun x y => cmpK x y ≤ 0) : compL m = keysU X Y :=
  comp_insK (fun x hx => (List.mem_append.1 hx).elim (keys_wk hX x) (keys_wk hY x)) hp hs
theorem keysU_len {X Y : List COp} {m : List OKey} (hp : m.Perm (keysO X ++ keysO Y)) (h : compL m = keysU X Y) : (keysU X Y).length ≤ X.length + Y.length := by
  rw [← h]
  have h1 := compL_len m
  have h2 := hp.length_eq
  have h3 := keysO_len X
  have h4 := keysO_len Y
  rw [List.length_append] at h2
  omega
theorem opK_mem {X : List COp} {κ : OKey} {b : Bool} {o : COp} (h : opK X κ b = some o) : o ∈ X := by
  unfold opK at h
  obtain ⟨i, hi, rfl⟩ := Option.map_eq_some_iff.1 h
  exact gm (lastN_lt hi).1
theorem tl_le {α : Type} (o : Option α) : o.toList.length ≤ 1 := by cases o <;> simp
theorem thenO_eq (r1 a1 r2 a2 : Option COp) : ∃ (b f : Option COp) (c1 c2 : Bool), thenO r1 a1 r2 a2 = (if c1 then ([], false) else if c2 then ([], true) else ((b.toList.map fun o => { o with add := false }) ++ (f.toList.map fun o => { o with add := true }), true)) ∧ (b = r1 ∨ b = r2) ∧ (f = a2 ∨ f = a1 ∨ f = r2) := by
  refine ⟨if r1.isSome || a1.isSome then r1 else r2, if r2.isSome || a2.isSome then a2 else if r1.isSome || a1.isSome then a1 else r2, _, _, rfl, ?_, ?_⟩
  · split
    · exact .inl rfl
    · exact .inr rfl
  · split
    · exact .inl rfl
    · split
      · exact .inr (.inl rfl)
      · exact .inr (.inr rfl)
theorem thenO_mem {r1 a1 r2 a2 : Option COp} {x : COp} (h : x ∈ (thenO r1 a1 r2 a2).1) : ∃ o b, (r1 = some o ∨ a1 = some o ∨ r2 = some o ∨ a2 = some o) ∧ x = { o with add := b } := by
  obtain ⟨b, f, c1, c2, e, hb, hf⟩ := thenO_eq r1 a1 r2 a2
  rw [e] at h
  cases c1 with
  | true => cases h
  | false =>
    cases c2 with
    | true => cases h
    | false =>
      rcases List.mem_append.1 h with h | h
      · obtain ⟨o, ho, rfl⟩ := List.mem_map.1 h
        rw [Option.mem_toList] at ho
        refine ⟨o, _, ?_, rfl⟩
        rcases hb with rfl | rfl
        · exact .inl ho
        · exact .inr (.inr (.inl ho))
      · obtain ⟨o, ho, rfl⟩ := List.mem_map.1 h
        rw [Option.mem_toList] at ho
        refine ⟨o, _, ?_, rfl⟩
        rcases hf with rfl | rfl | rfl
        · exact .inr (.inr (.inr ho))
        · exact .inr (.inl ho)
        · exact .inr (.inr (.inl ho))
theorem thenO_len (r1 a1 r2 a2 : Option COp) : (thenO r1 a1 r2 a2).1.length ≤ 2 := by
  obtain ⟨b, f, c1, c2, e, hb, hf⟩ := thenO_eq r1 a1 r2 a2
  rw [e]
  cases c1 with
  | true => exact Nat.zero_le _
  | false =>
    cases c2 with
    | true => exact Nat.zero_le _
    | false =>
      show (_ ++ _ : List COp).length ≤ 2
      rw [List.length_append, List.length_map, List.length_map]
      exact Nat.add_le_add (tl_le _) (tl_le _)
theorem thF_ok {X Y : List COp} (hX : ∀ x ∈ X, x.p.ok) (hY : ∀ x ∈ Y, x.p.ok) (K : List OKey) : ∀ x ∈ thF X Y K, x.p.ok := fun x hx => by
  obtain ⟨κ, _, h⟩ := List.mem_flatMap.1 hx
  obtain ⟨o, b, ho, rfl⟩ := thenO_mem h
  rcases ho with h | h | h | h
  · exact hX o (opK_mem h)
  · exact hX o (opK_mem h)
  · exact hY o (opK_mem h)
  · exact hY o (opK_mem h)
theorem thF_len (X Y : List COp) : ∀ K : List OKey, (thF X Y K).length ≤ 2 * K.length
  | [] => Nat.le_refl _
  | κ :: r => by
    have h1 := thF_len X Y r
    have h2 : (thK X Y κ).1.length ≤ 2 := thenO_len _ _ _ _
    have e : thF X Y (κ :: r) = (thK X Y κ).1 ++ thF X Y r := rfl
    rw [e, List.length_append, List.length_cons]; omega
theorem thF_succ {X Y : List COp} {K : List OKey} {k : Nat} (h : k < K.length) : thF X Y (K.take (k + 1)) = thF X Y (K.take k) ++ (thK X Y (K.getD k okz)).1 := by
  have e : K.getD k okz = K[k] := by simp [List.getD, h]
  unfold thF
  rw [List.take_succ_eq_append_getElem h, List.flatMap_append, e]; simp
theorem all_succ {X Y : List COp} {K : List OKey} {k : Nat} (h : k < K.length) (h1 : (K.take k).all (fun κ => (thK X Y κ).2) = true) (h2 : (thK X Y (K.getD k okz)).2 = true) : (K.take (k + 1)).all (fun κ => (thK X Y κ).2) = true := by
  have e : K.getD k okz = K[k] := by simp [List.getD, h]
  rw [List.take_succ_eq_append_getElem h, List.all_append, h1, ← e]
  show (true && ((thK X Y (K.getD k okz)).2 && true)) = true
  rw [h2]; rfl
theorem all_no {X Y : List COp} {K : List OKey} {k : Nat} (h : k < K.length) (h2 : (thK X Y (K.getD k okz)).2 = false) : K.all (fun κ => (thK X Y κ).2) = false :=
  List.all_eq_false.2 ⟨K.getD k okz, gm h, by rw [h2]; simp⟩
/- the chapter's example -/
def fA : List COp := [awO false 1 5, awO true 1 9]
def fD : List COp := [awO false 1 9]
def fI : List COp := [awO false 1 9, awO true 1 5]
def fX : List COp := [awO false 1 5]
def fT : Str := [45, 32, 117, 115, 101, 114, 32, 49, 32, 114, 111, 108, 101, 32, 50, 32, 117, 110, 116, 105, 108, 32, 53, 10, 43, 32, 117, 115, 101, 114, 32, 49, 32, 114, 111, 108, 101, 32, 50, 32, 117, 110, 116, 105, 108, 32, 57, 10]
def fT1 : Str := [45, 32, 117, 115, 101, 114, 32, 49, 32, 114, 111, 108, 101, 32, 50, 32, 117, 110, 116, 105, 108, 32, 53, 10]
theorem fA_vs : VS fA := by
  refine ⟨?_, by decide +kernel, by decide +kernel⟩
  intro x hx
  simp only [fA, List.mem_cons, List.not_mem_nil, or_false] at hx
  rcases hx with rfl | rfl <;> exact ⟨⟨by decide, by decide⟩, by decide +kernel⟩
theorem fI_vs : VS fI := by
  refine ⟨?_, by decide +kernel, by decide +kernel⟩
  intro x hx
  simp only [fI, List.mem_cons, List.not_mem_nil, or_false] at hx
  rcases hx with rfl | rfl <;> exact ⟨⟨by decide, by decide⟩, by decide +kernel⟩
theorem fD_vs : VS fD := by
  refine ⟨?_, by decide +kernel, by decide +kernel⟩
  intro x hx
  simp only [fD, List.mem_cons, List.not_mem_nil, or_false] at hx
  rcases hx with rfl; exact ⟨⟨by decide, by decide⟩, by decide +kernel⟩
theorem f_of : ofO [awO true 1 9, awO false 1 5] = (fA, 0) := by decide +kernel
theorem f_txt : txtO fA dig textS fA.length = fT := by decide +kernel
theorem f_txt1 : txtO fX dig textS fX.length = fT1 := by decide +kernel
theorem f_keys : (keysO fA).length = 1 := by decide +kernel
theorem f_then : thenS fA fD = (fX, 0) := by decide +kernel
theorem f_inv : invO fA = fI := by decide +kernel
theorem f_cf : CF (fA.map flipO) := by decide +kernel
theorem f_thenI : thenS fA fI = ([], 0) := by decide +kernel
end Go.Lx
/- The ways of a statement come together again: what comes behind it is walked once. Nothing of a program stands here. -/
namespace Go.Lx
open Go
theorem W_join {rd : Option Nat} {P : Program} {n : Nat} {c d : Code} {K : Fr → World → Prop} {E : Nat → Fr → World → Prop} {Rt : Fr → World → Prop} {fr : Fr} {w : World} {α : Type}
    (R : List (Nat × Nat)) (S : α → List (Nat × Value)) (I : α → World → Prop)
    (h1 : W rd P n c (fun fr' w' => ∃ y, slotsOk fr' (S y) ∧ Off R fr fr' ∧ I y w') E Rt fr w)
    (h2 : ∀ x base w, I x w → W rd P n d K E Rt (setL (mix R fr base) (S x)) w) : W rd P n (.seq c d) K E Rt fr w := by
  refine QH (h1.mono ?_ (fun _ _ _ h => h) (fun _ _ h => h))
  rintro fr' w' ⟨x, h3, h4, h5⟩
  have := h2 x fr' w' h5
  rwa [mix_same h4, setL_same h3] at this
section
variable {P : Program} {fr : Fr} {w : World} {d : Option Nat} {t : TypeId} {ps : String} {af : Array Edge} {g : Option (Nat × Bool)} {x y : Operand} {T U : TypeId}
end
end Go.Lx
/- Two sets of ops one after the other, as the reference has it: the same. Nothing of a program stands here. -/
namespace Go.Lx
open Go
end Go.Lx
/- States after a set of ops, as far as more ops look at them. Nothing of a program stands here. -/
namespace Go.Lx
open Go Go.RowKit
section
variable {P : Program} {fr : Fr} {w : World} {d : Option Nat} {t : TypeId} {ps : String} {af : Array Edge} {g : Option (Nat × Bool)} {x y : Operand} {T U : TypeId} {k : IntKind} {a : W64} {i : Int}
end
end Go.Lx
/- Pointers to ops, or none. Nothing of a program stands here. -/
namespace Go.Lx
open Go Go.RowKit
def PtO (F : Nat → Prop) (w : World) (p : Option Addr) (o : Option COp) : Prop := (p = none ∧ o = none) ∨ ∃ g off x, p = some ⟨g, off, none⟩ ∧ o = some x ∧ (F g ∧ g < w.heap.size) ∧ At w g off (encCo x)
section
variable {F : Nat → Prop} {w w' : World} {p : Option Addr} {o : Option COp}
theorem PtO.keep {γ : Prop} {D : Nat → Prop} (h : PtO F w p o) (x : Bel γ D w w') (hd : ∀ g, g < w.heap.size → F g → ¬ D g) : PtO F w' p o := by
  rcases h with h | ⟨g, off, y, h1, h2, h3, h4⟩
  · exact .inl h
  · exact .inr ⟨g, off, y, h1, h2, ⟨h3.1, Nat.lt_of_lt_of_le h3.2 x.size⟩, h4.keep x (hd g h3.2 h3.1)⟩
theorem PtO.ext {γ : Prop} (h : PtO F w p o) (x : Ext γ w w') : PtO F w' p o := h.keep x fun _ _ _ h => h
theorem PtO.some (h : PtO F w p o) : p.isNone = o.isNone := by
  rcases h with ⟨rfl, rfl⟩ | ⟨g, off, y, rfl, rfl, _⟩ <;> rfl
theorem PtO.get (h : PtO F w p o) (ho : o.isSome = true) : ∃ g off x, p = Option.some ⟨g, off, none⟩ ∧ o = Option.some x ∧ (F g ∧ g < w.heap.size) ∧ At w g off (encCo x) := by
  rcases h with ⟨_, rfl⟩ | h
  · cases ho
  · exact h
theorem Sl.ptO {a : Option Addr} {c : Nat} {X : List COp} (h : Sl encCo 8 F w a c X) (κ : OKey) (b : Bool) : PtO F w (px a (lastK X κ b)) (opK X κ b) := by
  unfold opK
  cases hl : lastK X κ b with
  | none => exact .inl ⟨rfl, rfl⟩
  | some i =>
    have hi := (lastN_lt hl).1
    obtain ⟨g, off, rfl, h2, h3, _⟩ := h.el i (X.getD i coz) (Jw coz hi)
    exact .inr ⟨g, off + i * 8, _, J1 g off (i * 8), rfl, h2, h3⟩
variable {P : Program} {fr : Fr} {d : Option Nat} {t : TypeId} {ps : String} {af : Array Edge} {gd : Option (Nat × Bool)} {x y : Operand} {T U : TypeId}
theorem o_pneP {tp : TypeId} (hT : P.underlying T = Option.some (.pointer tp)) (h : PtO F w' p o) (hx : ev fr x = .pointer p) (hy : ev fr y = .pointer none) : xop P fr w ⟨d, .binOp .neq T x y U, t, ps, af, gd⟩ = .ok (.value (.bool o.isSome)) w := by
  rw [o_pne hT hx hy, h.some]; cases o <;> rfl
theorem o_peqP {tp : TypeId} (hT : P.underlying T = Option.some (.pointer tp)) (h : PtO F w' p o) (hx : ev fr x = .pointer p) (hy : ev fr y = .pointer none) : xop P fr w ⟨d, .binOp .eql T x y U, t, ps, af, gd⟩ = .ok (.value (.bool o.isNone)) w := by
  rw [o_peq hT hx hy, h.some]
theorem o_nilcP (h : PtO F w' p o) (ho : o.isSome = true) (hx : ev fr x = .pointer p) : xop P fr w ⟨d, .nilCheck x, t, ps, af, gd⟩ = .ok (.value (.pointer p)) w := by
  obtain ⟨g, off, z, rfl, _⟩ := h.get ho
  exact JI hx
theorem o_faP {fs : Array Field} {f n : Nat} {Fd : Field} (hP : P.underlying T = Option.some (.struct fs)) (hf : fs[f]? = Option.some Fd) (hs : ∀ w, (sizeOf Fd.type).run P w = .ok (n + 1) w) (h : PtO F w' p o) (ho : o.isSome = true) (hx : ev fr x = .pointer p) :
    xop P fr w ⟨d, .fieldAddr T x f, t, ps, af, gd⟩ = .ok (.value (.pointer (elp p Fd.offset))) w := by
  obtain ⟨g, off, z, rfl, _⟩ := h.get ho
  rw [J1]
  exact ZN hP hf hs hx
theorem o_ldP (ha : ∀ w, (isAgg T).run P w = .ok false w) (h : PtO F w p o) (ho : o.isSome = true) (hx : ev fr x = .pointer (elp p 4)) : xop P fr w ⟨d, .load T x, t, ps, af, gd⟩ = .ok (.value (.int .i64 (o.getD coz).u)) w := by
  obtain ⟨g, off, z, rfl, rfl, _, h4⟩ := h.get ho
  rw [J1] at hx
  exact ZB ha hx (h4.get 4 rfl)
end
theorem nnO {α : Type} {o : Option α} (h : (o.isNone == false) = true) : o.isSome = true := by cases o <;> simp_all
theorem ssR {α : Type} {a : Bool} {o : Option α} (h : ((a && o.isSome) == true) = true) : o.isSome = true := by cases a <;> simp_all
theorem ssL {α : Type} {a : Bool} {o : Option α} (h : ((o.isSome && a) == true) = true) : o.isSome = true := by cases a <;> simp_all
theorem noO {α : Type} {o : Option α} (h : o.isSome = false) : o = none := by cases o <;> simp_all
section
variable {r1 a1 r2 a2 om ob oa : Option COp}
def failO (r1 a1 r2 a2 om : Option COp) : Bool := ((r1.isSome || a1.isSome) && r2.isSome) && (om.isNone || (om.getD coz).u != (r2.getD coz).u) || ((((r1.isSome || a1.isSome) && r2.isNone) && a2.isSome) && om.isSome)
def sameO (ob oa : Option COp) : Bool := (ob.isSome && oa.isSome) && (ob.getD coz).u == (oa.getD coz).u
def offO (o : Option COp) : List COp := o.toList.map fun o => { o with add := false }
def onO (o : Option COp) : List COp := o.toList.map fun o => { o with add := true }
theorem takeT_len (ob oa : Option COp) (k : Nat) : (takeT (offO ob) (onO oa) k).length ≤ 2 := by
  match k with
  | 0 => exact Nat.zero_le _
  | 1 => show (offO ob).length ≤ 2; cases ob <;> simp [offO]
  | k + 2 => show (offO ob ++ onO oa).length ≤ 2; cases ob <;> cases oa <;> simp [offO, onO]
theorem thenO_fail (hm : om = if (r1.isSome || a1.isSome) = true then a1 else r2) (h : failO r1 a1 r2 a2 om = true) : thenO r1 a1 r2 a2 = ([], false) := by
  subst hm; exact if_pos h
theorem thenO_same (hb : ob = if (r1.isSome || a1.isSome) = true then r1 else r2) (hm : om = if (r1.isSome || a1.isSome) = true then a1 else r2) (ha : oa = if (r2.isSome || a2.isSome) = true then a2 else om) (h : failO r1 a1 r2 a2 om = false) (hs : sameO ob oa = true) : thenO r1 a1 r2 a2 = ([], true) := by
  subst ha hm hb
  exact (if_neg (by intro e; exact Bool.noConfusion (h.symm.trans e))).trans (if_pos hs)
theorem thenO_two (hb : ob = if (r1.isSome || a1.isSome) = true then r1 else r2) (hm : om = if (r1.isSome || a1.isSome) = true then a1 else r2) (ha : oa = if (r2.isSome || a2.isSome) = true then a2 else om) (h : failO r1 a1 r2 a2 om = false) (hs : sameO ob oa = false) : thenO r1 a1 r2 a2 = (offO ob ++ onO oa, true) := by
  subst ha hm hb
  exact (if_neg (by intro e; exact Bool.noConfusion (h.symm.trans e))).trans (if_neg (by intro e; exact Bool.noConfusion (hs.symm.trans e)))
end
