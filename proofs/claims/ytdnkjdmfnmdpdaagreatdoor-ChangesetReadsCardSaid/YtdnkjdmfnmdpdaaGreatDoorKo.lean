/- Several texts in one file. -/
import Derived.Test.YtdnkjdmfnmdpdaaGreatDoorCs
import Derived.Test.YtdnkjdmfnmdpdaaGreatDoorHy
import Derived.Test.YtdnkjdmfnmdpdaaGreatDoorGm
import Derived.Test.YtdnkjdmfnmdpdaaGreatDoorSess
import Derived.Test.YtdnkjdmfnmdpdaaGreatDoorDraw
import Derived.Test.YtdnkjdmfnmdpdaaGreatDoorTz
import Derived.Lib.ItoaNum
set_option linter.unusedSimpArgs false
set_option linter.unusedVariables false
set_option linter.unnecessarySimpa false
/- The order of keys by signs; conflicts as they lie. Nothing of a program stands here. -/
namespace Go.Lx
open Go
def KmIs (T : TypeId) (n : Nat) (l : List COp) (F : Nat → Prop) (v : Value) (w : World) : Prop := (∀ g, F g → n ≤ g) ∧ ∃ b, v = .map (some b) ∧ KM T F w b l
theorem KmIs.keepS (T : TypeId) (n : Nat) (l : List COp) : KeepS (KmIs T n l) := fun F v γ D w w' x hd ⟨h1, b, h2, h3⟩ => ⟨h1, b, h2, h3.keep x hd⟩
theorem wrap_k8 {n : Int} (h0 : 0 ≤ n) (h1 : n ≤ 255) : IntKind.u8.wrap n = n := by
  obtain ⟨m, rfl⟩ := Int.eq_ofNat_of_zero_le h0
  simp [IntKind.wrap, IntKind.bits, IntKind.signed]
  omega
theorem takeD {α : Type} {l : List α} {k : Nat} {z : α} (h : k < l.length) : l.take (k + 1) = l.take k ++ [l.getD k z] := by
  rw [List.take_succ_eq_append_getElem h, show l[k] = l.getD k z by simp [List.getD, h]]
theorem compF_len {α : Type} [BEq α] : ∀ (l acc : List α), (l.foldl compStep acc).length ≤ acc.length + l.length
  | [], acc => by simp
  | x :: r, acc => by
    have h := compF_len r (compStep acc x)
    have h2 : (compStep acc x).length ≤ acc.length + 1 := by unfold compStep; split <;> simp
    simp only [List.foldl_cons, List.length_cons]; omega
theorem keysO_len (l : List COp) : (keysO l).length ≤ l.length := by
  have h := compF_len (l.map COp.key) []
  simpa [keysO, compL] using h
end Go.Lx
/- What the reference's states are made of, as far as the statements about sets of ops look at them. Nothing of a program stands here. -/
namespace Go.Lx
open Go Go.RowKit
structure E12 where
  u : Int
  r : Int
  t : Int
  deriving DecidableEq
def encA12 (e : E12) : List Value := [.int .i64 e.u, .int .i64 e.r, .int .i64 e.t]
theorem Zi : EncOk encA12 3 := ⟨by decide, fun _ => rfl, fun x u hu => by
  simp [encA12] at hu
  rcases hu with rfl | rfl | rfl <;> rfl⟩
def az : E12 := ⟨0, 0, 0⟩
structure F18 where
  o : Int
  n : Int
  a : Option Addr
  m : Nat
  c : Nat
  a2 : Option Addr
  m2 : Nat
  c2 : Nat
def encF18 (f : F18) : List Value := [.int .i64 f.o, .int .i64 f.n, .slice f.a f.m f.c, .slice f.a2 f.m2 f.c2]
theorem encF18_ok : EncOk encF18 4 := ⟨by decide, fun _ => rfl, fun x u hu => by
  simp [encF18] at hu
  rcases hu with rfl | rfl | rfl | rfl <;> rfl⟩
structure C18 where
  e : Bool
  k : Int
  s : Str
  f : F18
def encC18 (x : C18) : List Value := [.bool x.e, .int .i64 x.k, str x.s, .int .i64 x.f.o, .int .i64 x.f.n, .slice x.f.a x.f.m x.f.c, .slice x.f.a2 x.f.m2 x.f.c2]
theorem encC18_ok : EncOk encC18 7 := ⟨by decide, fun _ => rfl, fun x u hu => by
  simp [encC18] at hu
  rcases hu with rfl | rfl | rfl | rfl | rfl | rfl | rfl <;> rfl⟩
structure R23 where
  rv : Bool
  ad : Int
  tg : Int
  y : W64
  n : W64
  a : Option Addr
  m : Nat
  c : Nat
  lg : Int
def encR23 (x : R23) : List Value := [.bool x.rv, .int .i64 x.ad, .int .i64 x.tg, u64 x.y, u64 x.n, .slice x.a x.m x.c, .int .i64 x.lg]
theorem encR23_ok : EncOk encR23 7 := ⟨by decide, fun _ => rfl, fun x u hu => by
  simp [encR23] at hu
  rcases hu with rfl | rfl | rfl | rfl | rfl | rfl | rfl <;> rfl⟩
def Byt (F : Nat → Prop) (w : World) (b : Nat) (T : TypeId) (N : Nat) : Prop := ∃ a c l n, Box w b T [.slice a (l : List UInt8).length c, .int .i64 ((n : Nat) : Int)] ∧ n ≤ N ∧ Sl encB 1 F w a c l
section
variable {F : Nat → Prop} {w w' : World} {b N : Nat} {T : TypeId}
theorem Byt.keep {γ : Prop} {D : Nat → Prop} (h : Byt F w b T N) (x : Bel γ D w w') (hb : ¬ D b) (hF : ∀ g, g < w.heap.size → F g → ¬ D g) : Byt F w' b T N :=
  let ⟨a, c, l, n, h1, h2, h3⟩ := h
  ⟨a, c, l, n, h1.keep x hb, h2, h3.keep x hF⟩
theorem Byt.ext {γ : Prop} (h : Byt F w b T N) (x : Ext γ w w') : Byt F w' b T N := h.keep x id fun _ _ _ h => h
theorem Byt.up {M : Nat} (h : Byt F w b T N) (hn : N ≤ M) : Byt F w b T M :=
  let ⟨a, c, l, n, h1, h2, h3⟩ := h
  ⟨a, c, l, n, h1, Nat.le_trans h2 hn, h3⟩
theorem Byt.lt (h : Byt F w b T N) : b < w.heap.size := let ⟨_, _, _, _, h1, _, _⟩ := h; h1.lt
end
def addA (e : E12) : COp := ⟨true, 1, e.u, e.r, e.t, pz⟩
def addG (e : Ent) : COp := ⟨true, 2, e.r, 0, 0, e.p⟩
def addL (x : Pr) : COp := ⟨true, 3, iv x.1, iv x.2, 0, pz⟩
def thingsO (M : List E12) (G : List Ent) (L : List Pr) : List COp := M.map addA ++ G.map addG ++ L.map addL
theorem pz_ok : pz.ok := ⟨by decide, by decide⟩
theorem things_ok {M : List E12} {G : List Ent} {L : List Pr} (hG : OkG G) : ∀ o ∈ thingsO M G L, o.p.ok := by
  intro o ho
  unfold thingsO at ho
  rw [List.mem_append, List.mem_append] at ho
  rcases ho with (ho | ho) | ho
  · obtain ⟨e, _, rfl⟩ := List.mem_map.1 ho; exact pz_ok
  · obtain ⟨e, he, rfl⟩ := List.mem_map.1 ho; exact (hG.ve e he).2.2.1
  · obtain ⟨e, _, rfl⟩ := List.mem_map.1 ho; exact pz_ok
theorem mapT {α β : Type} {X : List α} {k : Nat} {z : α} {f : α → β} (h : k < X.length) : (X.take (k + 1)).map f = (X.take k).map f ++ [f (X.getD k z)] := by
  have e : X.getD k z = X[k] := by simp [List.getD, h]
  rw [List.take_succ_eq_append_getElem h, List.map_append, e]; rfl
abbrev stC (d : Int) (U R : Value) (ad : W64) (L M G X Y Z : Value) : List Value := [.int .i64 d, U, R, u64 ad, L, M, G, X, Y, Z]
def StIs (F : Nat → Prop) (w : World) (v : Value) : Prop := ∃ U R ad X Y Z aL cL L aM cM M aG cG G, v = .agg (stC 10 U R ad (.slice aL (L : List Pr).length cL) (.slice aM (M : List E12).length cM) (.slice aG (G : List Ent).length cG) X Y Z).toArray ∧
  Sl encPr 2 F w aL cL L ∧ Sl encA12 3 F w aM cM M ∧ Sl encE 4 F w aG cG G ∧ OkG G ∧ L.length ≤ 10000 ∧ M.length ≤ 10000
theorem StIs.keep {γ : Prop} {F D : Nat → Prop} {w w' : World} {v : Value} (h : StIs F w v) (x : Bel γ D w w') (hd : ∀ b, b < w.heap.size → F b → ¬ D b) : StIs F w' v :=
  let ⟨U, R, ad, X, Y, Z, aL, cL, L, aM, cM, M, aG, cG, G, h1, h2, h3, h4, h5⟩ := h
  ⟨U, R, ad, X, Y, Z, aL, cL, L, aM, cM, M, aG, cG, G, h1, h2.keep x hd, h3.keep x hd, h4.keep x hd, h5⟩
theorem StIs.ext {γ : Prop} {F : Nat → Prop} {w w' : World} {v : Value} (h : StIs F w v) (x : Ext γ w w') : StIs F w' v := h.keep x fun _ _ _ h => h
theorem StIs.mono {F F' : Nat → Prop} {w : World} {v : Value} (h : StIs F w v) (hd : ∀ b, b < w.heap.size → F b → F' b) : StIs F' w v :=
  let ⟨U, R, ad, X, Y, Z, aL, cL, L, aM, cM, M, aG, cG, G, h1, h2, h3, h4, h5⟩ := h
  ⟨U, R, ad, X, Y, Z, aL, cL, L, aM, cM, M, aG, cG, G, h1, h2.mono hd, h3.mono hd, h4.mono hd, h5⟩
structure RawO where
  add : Bool
  old : Bool
  k : UInt8
  a : UInt8
  b : UInt8
  u : UInt8
section
variable {P : Program} {fr : Fr} {w : World} {d : Option Nat} {t : TypeId} {ps : String} {af : Array Edge} {g : Option (Nat × Bool)} {x y : Operand} {T U : TypeId} {k : IntKind} {a n : Nat}
theorem o_shrN (hx : ev fr x = .int .i64 (a : Int)) (hy : ev fr y = .int k (n : Int)) (hn : n < 64) : xop P fr w ⟨d, .binOp .shr T x y U, t, ps, af, g⟩ = .ok (.value (.int .i64 ((a >>> n : Nat) : Int))) w := by
  have e : Int.fdiv (a : Int) (2 ^ n) = ((a >>> n : Nat) : Int) := by
    rw [Nat.shiftRight_eq_div_pow]
    rw [Int.fdiv_eq_ediv_of_nonneg _ (by exact Int.le_of_lt (Int.pow_pos (by decide)))]
    simp
  have h0 : ¬ ((n : Int) < 0) := by omega
  have h1 : min ((n : Int).toNat) 64 = n := by rw [Int.toNat_natCast]; omega
  have h1' : min ((n : Int).toNat) IntKind.i64.bits = n := h1
  simp only [xop, execOp, hx, hy, eqGuard, binOp, Op.shift, if_neg h0]
  simp only [h1', e]; simp
theorem o_quoU8 {a b : Nat} (hx : ev fr x = .int .u8 (a : Int)) (hy : ev fr y = .int .u8 (b : Int)) (hb : 0 < b) (ha : a < 256) : xop P fr w ⟨d, .binOp .quo T x y U, t, ps, af, g⟩ = .ok (.value (.int .u8 ((a / b : Nat) : Int))) w := by
  have h0 : (b : Int) ≠ 0 := by omega
  have h00 : b ≠ 0 := by omega
  have e2 : (a : Int).tdiv (b : Int) = ((a / b : Nat) : Int) := by rw [Int.tdiv_eq_ediv_of_nonneg (by omega)]; rfl
  have h3 : a / b ≤ a := Nat.div_le_self a b
  have e : IntKind.u8.wrap ((a / b : Nat) : Int) = ((a / b : Nat) : Int) := by
    generalize a / b = q at h3 ⊢
    simp [IntKind.wrap, IntKind.bits, IntKind.signed]
    omega
  simp only [xop, execOp, hx, hy, eqGuard, binOp, Op.intDiv, e2, e]
  simp [h0, h00]
theorem shr_le (a n : Nat) : a >>> n ≤ a := Nat.shiftRight_le a n
end
def encI2 (x : Int × Int) : List Value := [.int .i64 x.1, .int .i64 x.2]
theorem encI2_ok : EncOk encI2 2 := ⟨by decide, fun _ => rfl, fun x u hu => by
  simp [encI2] at hu
  rcases hu with rfl | rfl <;> rfl⟩
def hasD (l : List (Int × Int)) (d : Int) : Bool := l.any fun x => decide (x.1 ≤ d) && decide (d ≤ x.2)
theorem any_one {α : Type} {f : α → Bool} {l : List α} {k : Nat} {z : α} (h : k < l.length) (hf : f (l.getD k z) = true) : l.any f = true := by
  have e : l.getD k z = l[k] := by simp [List.getD, h]
  exact List.any_eq_true.2 ⟨_, List.getElem_mem h, e ▸ hf⟩
theorem any_none {α : Type} {f : α → Bool} {l : List α} {z : α} (h : ∀ j, j < l.length → f (l.getD j z) = false) : l.any f = false := by
  rw [List.any_eq_false]
  intro x hx
  obtain ⟨j, hj, rfl⟩ := List.mem_iff_getElem.1 hx
  have e : l.getD j z = l[j] := by simp [List.getD, hj]
  rw [← e, h j hj]; simp
theorem r23_pack {w : World} {b : Nat} {T : TypeId} {rv : Bool} {ad tg : Int} {y n : W64} {a : Option Addr} {m c : Nat} {lg : Int} (h : Box w b T [.bool rv, .int .i64 ad, .int .i64 tg, .int .u64 (y.toNat : Int), .int .u64 (n.toNat : Int), .slice a m c, .int .i64 lg]) : ∃ r : R23, Box w b T (encR23 r) := ⟨⟨rv, ad, tg, y, n, a, m, c, lg⟩, h⟩
end Go.Lx
/- More of what the reference's states are made of. Nothing of a program stands here. -/
namespace Go.Lx
open Go Go.RowKit
theorem Byt.blk {F D : Nat → Prop} {γ : Prop} {w w' : World} {b N : Nat} {T : TypeId} (h : Byt F w b T N) (e : w'.heap[b]? = w.heap[b]?) (x : Bel γ D w w') (hF : ∀ g, g < w.heap.size → F g → ¬ D g) : Byt F w' b T N :=
  let ⟨a, c, l, n, h1, h2, h3⟩ := h
  ⟨a, c, l, n, h1.blk e, h2, h3.keep x hF⟩
def postByt (kc : Nat) (F : Nat → Prop) (b : Nat) (T : TypeId) (N : Nat) (S : (Nat → Prop) → Value → World → Prop) : PostC := fun v w c => (∃ F', (∀ g, F' g → g < w.heap.size ∧ c g = 0) ∧ S F' v w) ∧ Byt F w b T N ∧ c b = kc ∧ ∀ g, F g → g < b ∧ c g = 0
theorem postByt_stable {kc : Nat} {F : Nat → Prop} {b N : Nat} {T : TypeId} {S : (Nat → Prop) → Value → World → Prop} (hS : KeepS S) : StableC kc (postByt kc F b T N S) := by
  rintro v w c w' c' q hq hx ⟨⟨F', hF', hr⟩, hb, hcb, hF⟩
  have hbl := hb.lt
  have h0 : ∀ g, c g = 0 → ¬ (q ≠ 0 ∧ c g = q) := fun g hg hd => hd.1 (by rw [← hd.2]; exact hg)
  refine ⟨⟨F', fun g hg => ⟨Nat.lt_of_lt_of_le (hF' g hg).1 hx.bel.size, (hx.col g (hF' g hg).1).trans (hF' g hg).2⟩, hS _ _ _ _ _ _ hx.bel (fun g _ hg => h0 g (hF' g hg).2) hr⟩, hb.keep hx.bel (fun hd => ?_) (fun g _ hg => h0 g (hF g hg).2), (hx.col b hbl).trans hcb, fun g hg => ⟨(hF g hg).1, (hx.col g (Nat.lt_trans (hF g hg).1 hbl)).trans (hF g hg).2⟩⟩
  rcases hq with h | h
  · exact hd.1 h
  · exact h (hd.2.symm.trans hcb)
theorem OpC_byt {kc : Nat} {F : Nat → Prop} {b N : Nat} {T : TypeId} {S : (Nat → Prop) → Value → World → Prop} {P : Program} {ops : Array Oper} {o : Oper} {fr : Fr} {w : World} {c : Nat → Nat} {f : FuncId} {args : Array Value} (hkc : kc ≠ 0) (hb : b < w.heap.size) (hcb : c b = kc) (hF : ∀ g, F g → g < b ∧ c g = 0) (hg : o.guard = none) (h : xop P fr w o = .ok (.enter f args) w)
    (hk : Ok P f args w fun v' w' => S (Fsh w w') v' w' ∧ Byt F w' b T N ∧ Bel False (fun g => g = b) w w') (hd : o.dst.isSome = true := by rfl) : OpC False kc P ops o fr w c (postByt kc F b T N S) :=
  .inl ⟨by simp [Region.wanted, hg], .inr ⟨f, args, w, h, hd, hk.mono fun v' w' ⟨h1, h2, x⟩ => ⟨newC c w 0, ⟨x.mono fun g _ hgb => ⟨hkc, by rw [hgb]; exact hcb⟩, fun _ hb => newC_old hb⟩, ⟨Fsh w w', fun g hg => ⟨hg.2, newC_new hg.1⟩, h1⟩, h2, (newC_old hb).trans hcb, fun g hg => ⟨(hF g hg).1, (newC_old (Nat.lt_trans (hF g hg).1 hb)).trans (hF g hg).2⟩⟩⟩⟩
def ListIs {α : Type} (enc : α → List Value) (k n : Nat) (S : List α → Prop) (F : Nat → Prop) (v : Value) (w : World) : Prop := (∀ g, F g → n ≤ g) ∧ ∃ M, Rd enc k F w v M ∧ S M
def TupIs {α : Type} (enc : α → List Value) (k n : Nat) (S : List α → Prop) (F : Nat → Prop) (v : Value) (w : World) : Prop := ∃ u e, v = .tuple #[u, .int .i64 e] ∧ ListIs enc k n S F u w
def Tup3Is {α : Type} (enc : α → List Value) (k n : Nat) (S : List α → Prop) (F : Nat → Prop) (v : Value) (w : World) : Prop := ∃ u e d, v = .tuple #[u, .int .i64 e, .int .i64 d] ∧ ListIs enc k n S F u w
theorem ListIs.keepS {α : Type} (enc : α → List Value) (k n : Nat) (S : List α → Prop) : KeepS (ListIs enc k n S) := fun F v γ D w w' x hd ⟨h1, M, h2, h3⟩ => ⟨h1, M, h2.keep x hd, h3⟩
theorem TupIs.keepS {α : Type} (enc : α → List Value) (k n : Nat) (S : List α → Prop) : KeepS (TupIs enc k n S) := fun F v γ D w w' x hd ⟨u, e, h1, h2⟩ => ⟨u, e, h1, ListIs.keepS enc k n S F u γ D w w' x hd h2⟩
theorem Tup3Is.keepS {α : Type} (enc : α → List Value) (k n : Nat) (S : List α → Prop) : KeepS (Tup3Is enc k n S) := fun F v γ D w w' x hd ⟨u, e, d, h1, h2⟩ => ⟨u, e, d, h1, ListIs.keepS enc k n S F u γ D w w' x hd h2⟩
def postP (p : Value → Prop) : PostC := fun v _ _ => p v
theorem postP_stable {p : Value → Prop} {kc : Nat} : StableC kc (postP p) := fun _ _ _ _ _ _ _ _ h => h
theorem OpC_callP {p : Value → Prop} {β : Prop} {k : Nat} {P : Program} {ops : Array Oper} {o : Oper} {fr : Fr} {w : World} {c : Nat → Nat} {f : FuncId} {args : Array Value} (hg : o.guard = none) (h : xop P fr w o = .ok (.enter f args) w) (hk : Ok P f args w fun v' w' => p v' ∧ Ext β w w') (hd : o.dst.isSome = true := by rfl) : OpC β k P ops o fr w c (postP p) :=
  .inl ⟨by simp [Region.wanted, hg], .inr ⟨f, args, w, h, hd, hk.mono fun _ w' ⟨a, b⟩ => ⟨c, StepC.ext b fun _ _ => rfl, a⟩⟩⟩
theorem Own.keepS1 {α : Type} (enc : α → List Value) (k : Nat) (T : TypeId) (S : List α → Prop) : KeepS (fun F v w => ∃ l, Own enc k T F w v l ∧ S l) := fun F v γ D w w' x hd ⟨l, h1, h2⟩ => ⟨l, Own.keepD h1 x hd, h2⟩
theorem lk7 : ∀ k < 7, ((([(1, 2), (1, 3), (2, 3), (1, 4), (2, 4), (3, 4), (5, 6)] : List Pr).getD k (0, 0)).1.val < (([(1, 2), (1, 3), (2, 3), (1, 4), (2, 4), (3, 4), (5, 6)] : List Pr).getD k (0, 0)).2.val) ∧ 1 ≤ (([(1, 2), (1, 3), (2, 3), (1, 4), (2, 4), (3, 4), (5, 6)] : List Pr).getD k (0, 0)).1.val := by decide
theorem f18_pack {w : World} {b : Nat} {T : TypeId} {o n : Int} {a a2 : Option Addr} {m c m2 c2 : Nat} (h : Box w b T [.int .i64 o, .int .i64 n, .slice a m c, .slice a2 m2 c2]) : ∃ f : F18, Box w b T (encF18 f) := ⟨⟨o, n, a, m, c, a2, m2, c2⟩, h⟩
theorem c18_pack {w : World} {b : Nat} {T : TypeId} {e : Bool} {k o n : Int} {s : Str} {a a2 : Option Addr} {m c m2 c2 : Nat} (h : Box w b T [.bool e, .int .i64 k, str s, .int .i64 o, .int .i64 n, .slice a m c, .slice a2 m2 c2]) : ∃ x : C18, Box w b T (encC18 x) := ⟨⟨e, k, s, ⟨o, n, a, m, c, a2, m2, c2⟩⟩, h⟩
theorem OpC.mono2 {β : Prop} {k : Nat} {P : Program} {ops : Array Oper} {o : Oper} {fr : Fr} {w : World} {c : Nat → Nat} {S S' : PostC} (h : OpC β k P ops o fr w c S) (hs : ∀ v w' c', StepC β k w c w' c' → S v w' c' → S' v w' c') : OpC β k P ops o fr w c S' := by
  rcases h with ⟨h1, h2⟩ | ⟨h1, h2⟩
  · left
    refine ⟨h1, ?_⟩
    rcases h2 with ⟨v, w', c', g1, g2, g3⟩ | ⟨f, args, w0, g1, g0, g2⟩
    · exact .inl ⟨v, w', c', g1, g2, hs _ _ _ g2 g3⟩
    · exact .inr ⟨f, args, w0, g1, g0, g2.mono fun v w' ⟨c', a, b⟩ => ⟨c', a, hs _ _ _ a b⟩⟩
  · exact .inr ⟨h1, hs _ _ _ (StepC.rfl' _ _ _) h2⟩
def postSs (kc b : Nat) (T : TypeId) (f : Value → List Value) (S : (Nat → Prop) → Value → World → Prop) : PostC := fun _ w c => ∃ u, Box w b T (f u) ∧ c b = kc ∧ ∃ F', (∀ g, F' g → g < w.heap.size ∧ c g = 0) ∧ S F' u w
theorem postSs_stable {kc b : Nat} {T : TypeId} {f : Value → List Value} {S : (Nat → Prop) → Value → World → Prop} (hS : KeepS S) : StableC kc (postSs kc b T f S) := by
  rintro v w c w' c' q hq hx ⟨u, h1, h2, F', hF', hr⟩
  refine ⟨u, h1.keep hx.bel fun hd => ?_, (hx.col b h1.lt).trans h2, F', fun g hg => ⟨Nat.lt_of_lt_of_le (hF' g hg).1 hx.bel.size, (hx.col g (hF' g hg).1).trans (hF' g hg).2⟩, hS _ _ _ _ _ _ hx.bel (fun g _ hg hd => hd.1 (by rw [← hd.2]; exact (hF' g hg).2)) hr⟩
  rcases hq with h | h
  · exact hd.1 h
  · exact h (hd.2.symm.trans h2)
theorem postSs_of {β : Prop} {kc b : Nat} {T : TypeId} {f : Value → List Value} {S : (Nat → Prop) → Value → World → Prop} {P : Program} {ops : Array Oper} {o : Oper} {fr : Fr} {w : World} {c : Nat → Nat} {cs : List Value} {F' : Nat → Prop} {u : Value} (hS : KeepS S) (h : OpC β kc P ops o fr w c (postAt b kc T cs)) (e : cs = f u) (hF' : ∀ g, F' g → g < w.heap.size ∧ c g = 0) (hr : S F' u w) : OpC β kc P ops o fr w c (postSs kc b T f S) :=
  h.mono2 fun v w' c' hx ⟨h1, h2⟩ => ⟨u, e ▸ h1, h2, F', fun g hg => ⟨Nat.lt_of_lt_of_le (hF' g hg).1 hx.bel.size, (hx.col g (hF' g hg).1).trans (hF' g hg).2⟩, hS _ _ _ _ _ _ hx.bel (fun g _ hg hd => hd.1 (by rw [← hd.2]; exact (hF' g hg).2)) hr⟩
theorem wrap_u64 {n : Nat} (h : n < 18446744073709551616) : IntKind.u64.wrap (n : Int) = (n : Int) := by
  rw [wrapU', BitVec.toNat_ofNat, Nat.mod_eq_of_lt h]
theorem st_pack {F : Nat → Prop} {w : World} {U R X Y Z : Value} {ad : W64} {aL aM aG : Option Addr} {cL cM cG : Nat} {L : List Pr} {M : List E12} {G : List Ent} (hL : Sl encPr 2 F w aL cL L) (hM : Sl encA12 3 F w aM cM M) (hG : Sl encE 4 F w aG cG G) (hk : OkG G) (h1 : L.length ≤ 10000) (h2 : M.length ≤ 10000) : StIs F w (.agg (stC 10 U R ad (.slice aL L.length cL) (.slice aM M.length cM) (.slice aG G.length cG) X Y Z).toArray) :=
  ⟨U, R, ad, X, Y, Z, aL, cL, L, aM, cM, M, aG, cG, G, rfl, hL, hM, hG, hk, h1, h2⟩
def StS (F : Nat → Prop) (w : World) (v : Value) : Prop := ∃ aU nU cU aR nR cR ad aX nX cX aY nY cY aZ nZ cZ aL cL L aM cM M aG cG G, v = .agg (stC 10 (.slice aU nU cU) (.slice aR nR cR) ad (.slice aL (L : List Pr).length cL) (.slice aM (M : List E12).length cM) (.slice aG (G : List Ent).length cG) (.slice aX nX cX) (.slice aY nY cY) (.slice aZ nZ cZ)).toArray ∧
  Sl encPr 2 F w aL cL L ∧ Sl encA12 3 F w aM cM M ∧ Sl encE 4 F w aG cG G ∧ OkG G ∧ L.length ≤ 1000 ∧ M.length ≤ 1000
theorem sts_pack {F : Nat → Prop} {w : World} {aU aR aX aY aZ : Option Addr} {nU nR nX nY nZ cU cR cX cY cZ : Nat} {ad : W64} {aL aM aG : Option Addr} {cL cM cG : Nat} {L : List Pr} {M : List E12} {G : List Ent} (hL : Sl encPr 2 F w aL cL L) (hM : Sl encA12 3 F w aM cM M) (hG : Sl encE 4 F w aG cG G) (hk : OkG G) (h1 : L.length ≤ 1000) (h2 : M.length ≤ 1000) : StS F w (.agg (stC 10 (.slice aU nU cU) (.slice aR nR cR) ad (.slice aL L.length cL) (.slice aM M.length cM) (.slice aG G.length cG) (.slice aX nX cX) (.slice aY nY cY) (.slice aZ nZ cZ)).toArray) :=
  ⟨aU, nU, cU, aR, nR, cR, ad, aX, nX, cX, aY, nY, cY, aZ, nZ, cZ, aL, cL, L, aM, cM, M, aG, cG, G, rfl, hL, hM, hG, hk, h1, h2⟩
theorem four {d : Nat} (h : 1 ≤ d) : 4 ^ d = 4 * 4 ^ (d - 1) ∧ 1 ≤ 4 ^ (d - 1) := by
  obtain ⟨e, rfl⟩ : ∃ e, d = e + 1 := ⟨d - 1, by omega⟩
  exact ⟨by rw [Nat.pow_succ, Nat.add_sub_cancel, Nat.mul_comm], Nat.pow_pos (by decide)⟩
end Go.Lx
/- Raw ops, and ops that are made of them. Nothing of a program stands here. -/
namespace Go.Lx
open Go
structure RawC where
  add : Bool
  old : Bool
  k : UInt8
  a : UInt8
  b : UInt8
  u : UInt8
def encRaw (x : RawC) : List Value := [.bool x.add, .bool x.old, .int .u8 (x.k.toNat : Int), .int .u8 (x.a.toNat : Int), .int .u8 (x.b.toNat : Int), .int .u8 (x.u.toNat : Int)]
def rcz : RawC := ⟨false, false, 0, 0, 0, 0⟩
theorem ro_packK {w : World} {b : Nat} {T : TypeId} {x d : Bool} {k a c u : Int} {s1 s2 : Str} (h : Box w b T [.bool x, .int .i64 k, .int .i64 a, .int .i64 c, .int .i64 u, str s1, str s2, .bool d]) : ∃ o : COp, Box w b T (encRo o) ∧ o.p = ⟨s1, s2, d⟩ ∧ o.k = k := ⟨⟨x, k, a, c, u, ⟨s1, s2, d⟩⟩, h, rfl, rfl⟩
theorem things_k {M : List E12} {G : List Ent} {L : List Pr} : ∀ o ∈ thingsO M G L, 1 ≤ o.k ∧ o.k ≤ 3 := by
  intro o ho
  unfold thingsO at ho
  rw [List.mem_append, List.mem_append] at ho
  rcases ho with (ho | ho) | ho
  · obtain ⟨e, _, rfl⟩ := List.mem_map.1 ho; show (1 : Int) ≤ 1 ∧ (1 : Int) ≤ 3; decide
  · obtain ⟨e, _, rfl⟩ := List.mem_map.1 ho; show (1 : Int) ≤ 2 ∧ (2 : Int) ≤ 3; decide
  · obtain ⟨e, _, rfl⟩ := List.mem_map.1 ho; show (1 : Int) ≤ 3 ∧ (3 : Int) ≤ 3; decide
def RoK (o : COp) : Prop := o.p.ok ∧ 0 ≤ o.k ∧ o.k ≤ 255
section
variable {P : Program} {fr : Fr} {w : World} {d : Option Nat} {t : TypeId} {ps : String} {af : Array Edge} {g : Option (Nat × Bool)} {x y : Operand} {T U : TypeId}
theorem o_rem8 {a b : Nat} (hx : ev fr x = .int .u8 (a : Int)) (hy : ev fr y = .int .u8 (b : Int)) (hb : 0 < b) (ha : a < 256) : xop P fr w ⟨d, .binOp .rem T x y U, t, ps, af, g⟩ = .ok (.value (.int .u8 ((a % b : Nat) : Int))) w := by
  have h0 : (b : Int) ≠ 0 := by omega
  have e2 : (a : Int).tmod (b : Int) = ((a % b : Nat) : Int) := by rw [Int.tmod_eq_emod_of_nonneg (by omega)]; rfl
  have h3 : a % b ≤ a := Nat.mod_le _ _
  have e1 : IntKind.u8.wrap ((a % b : Nat) : Int) = ((a % b : Nat) : Int) := wrap_k8 (by omega) (by omega)
  simp only [xop, execOp, hx, hy, eqGuard, binOp, Op.intDiv, h0, e2, e1, if_false]
  simp [e1]
end
end Go.Lx
/- Merges: the chapter's examples, and lists that lie in variables made by a region that draws. Nothing of a program stands here. -/
namespace Go.Lx
open Go
def awO (x : Bool) (u n : Int) : COp := ⟨x, 1, u, 2, n, pz⟩
def postBoxS (w0 : World) (T : TypeId) (f : Value → List Value) (S : (Nat → Prop) → Value → World → Prop) (kc : Nat) : PostC := fun v w c => ∃ b, v = .pointer (some ⟨b, 0, none⟩) ∧ w0.heap.size ≤ b ∧ c b = kc ∧ ∃ u, Box w b T (f u) ∧ ∃ F', (∀ g, F' g → g < w.heap.size ∧ c g = 0) ∧ S F' u w
theorem postBoxS_stable {w0 : World} {T : TypeId} {f : Value → List Value} {S : (Nat → Prop) → Value → World → Prop} {kc : Nat} (hS : KeepS S) : StableC kc (postBoxS w0 T f S kc) := by
  rintro v w c w' c' q hq hx ⟨b, h1, h2, h4, u, h3, F', hF', hr⟩
  exact ⟨b, h1, h2, (hx.col b h3.lt).trans h4, u, h3.keep hx.bel fun hd => hq.elim hd.1 (fun h => h (by rw [← hd.2]; exact h4)), F', fun g hg => ⟨Nat.lt_of_lt_of_le (hF' g hg).1 hx.bel.size, (hx.col g (hF' g hg).1).trans (hF' g hg).2⟩, hS _ _ _ _ _ _ hx.bel (fun g _ hg hd => hd.1 (by rw [← hd.2]; exact (hF' g hg).2)) hr⟩
theorem postBoxS_of {w0 : World} {T : TypeId} {f : Value → List Value} {S : (Nat → Prop) → Value → World → Prop} {kc : Nat} {β : Prop} {P : Program} {ops : Array Oper} {o : Oper} {fr : Fr} {w : World} {c : Nat → Nat} {cs : List Value} {F' : Nat → Prop} {u : Value} (hS : KeepS S) (h : OpC β kc P ops o fr w c (postBoxK w0 T cs kc)) (e : cs = f u) (hF' : ∀ g, F' g → g < w.heap.size ∧ c g = 0) (hr : S F' u w) : OpC β kc P ops o fr w c (postBoxS w0 T f S kc) :=
  h.mono2 fun v w' c' hx ⟨b, h1, h2, h3, h4⟩ => ⟨b, h1, h2, h4, u, e ▸ h3, F', fun g hg => ⟨Nat.lt_of_lt_of_le (hF' g hg).1 hx.bel.size, (hx.col g (hF' g hg).1).trans (hF' g hg).2⟩, hS _ _ _ _ _ _ hx.bel (fun g _ hg hd => hd.1 (by rw [← hd.2]; exact (hF' g hg).2)) hr⟩
def SetIs (n : Nat) (l : List COp) (F : Nat → Prop) (v : Value) (w : World) : Prop := (∀ g, F g → n ≤ g) ∧ ∃ a c, v = .agg #[.slice a l.length c] ∧ Sl encCo 8 F w a c l
def TSetIs (n : Nat) (l : List COp) (e : Int) (F : Nat → Prop) (v : Value) (w : World) : Prop := (∀ g, F g → n ≤ g) ∧ ∃ a c, v = .tuple #[.agg #[.slice a l.length c], .int .i64 e] ∧ Sl encCo 8 F w a c l
theorem SetIs.keepS (n : Nat) (l : List COp) : KeepS (SetIs n l) := fun F v γ D w w' x hd ⟨h0, a, c, h1, h2⟩ => ⟨h0, a, c, h1, h2.keep x hd⟩
theorem TSetIs.keepS (n : Nat) (l : List COp) (e : Int) : KeepS (TSetIs n l e) := fun F v γ D w w' x hd ⟨h0, a, c, h1, h2⟩ => ⟨h0, a, c, h1, h2.keep x hd⟩
end Go.Lx
/- Merges with the sides exchanged; all conflicts decided for one side. Nothing of a program stands here. -/
namespace Go.Lx
open Go
end Go.Lx
/- Sets of ops one after the other: what a key had and has. Nothing of a program stands here. -/
namespace Go.Lx
open Go
def lastN (l : List COp) (κ : OKey) (b : Bool) : Nat → Option Nat
  | 0 => none
  | n + 1 => if (l.getD n coz).key = κ ∧ (l.getD n coz).add = b then some n else lastN l κ b n
def lastK (l : List COp) (κ : OKey) (b : Bool) : Option Nat := lastN l κ b l.length
def px (a : Option Addr) (i : Option Nat) : Option Addr := i.bind fun i => elp a (i * 8)
theorem lastN_lt {l : List COp} {κ : OKey} {b : Bool} {i : Nat} : ∀ {n : Nat}, lastN l κ b n = some i → i < n ∧ (l.getD i coz).key = κ ∧ (l.getD i coz).add = b
  | 0, h => by cases h
  | n + 1, h => by
    unfold lastN at h
    split at h
    · rename_i hc
      obtain rfl : n = i := by simpa using h
      exact ⟨Nat.lt_succ_self _, hc⟩
    · obtain ⟨h1, h2⟩ := lastN_lt h
      exact ⟨Nat.lt_succ_of_lt h1, h2⟩
def opK (l : List COp) (κ : OKey) (b : Bool) : Option COp := (lastK l κ b).map fun i => l.getD i coz
def flipO (o : COp) : COp := { o with add := !o.add }
def invO (l : List COp) : List COp := sortO (l.map flipO)
theorem Vo.flip {o : COp} (h : Vo o) : Vo (flipO o) := ⟨h.ok, h.chk⟩
theorem inv_get {X : List COp} {k : Nat} (h : k < X.length) : ((X.take k).map flipO ++ X.drop k)[k]? = some (X.getD k coz) := by
  rw [List.getElem?_append_right (by simp; omega)]
  simp [List.getD, h, Nat.min_eq_left (Nat.le_of_lt h)]
theorem inv_set {X : List COp} {k : Nat} (h : k < X.length) : ((X.take k).map flipO ++ X.drop k).set k (flipO (X.getD k coz)) = (X.take (k + 1)).map flipO ++ X.drop (k + 1) := by
  have e1 : ((X.take k).map flipO).length = k := by rw [List.length_map, List.length_take]; omega
  rw [List.set_append_right _ _ (by omega), e1, Nat.sub_self, List.drop_eq_getElem_cons h, List.set_cons_zero, takeD (z := coz) h, List.map_append, List.append_assoc]
  rfl
def thenO (r1 a1 r2 a2 : Option COp) : List COp × Bool :=
  let known := r1.isSome || a1.isSome
  let before := if known then r1 else r2
  let middle := if known then a1 else r2
  if (known && r2.isSome && (middle.isNone || (middle.getD coz).u != (r2.getD coz).u)) || (known && r2.isNone && a2.isSome && middle.isSome) then ([], false) else
  let after := if r2.isSome || a2.isSome then a2 else middle
  if before.isSome && after.isSome && (before.getD coz).u == (after.getD coz).u then ([], true) else
  ((before.toList.map fun o => { o with add := false }) ++ (after.toList.map fun o => { o with add := true }), true)
def lineO (o : COp) (n : Int → Str) (t : Perm → Str) : Str :=
  (if o.add then [43, 32] else [45, 32]) ++ ((if o.k = 1 then [117, 115, 101, 114, 32] ++ n o.a ++ [32, 114, 111, 108, 101, 32] ++ n o.b ++ [32, 117, 110, 116, 105, 108, 32] ++ n o.u
   else if o.k = 2 then [114, 111, 108, 101, 32] ++ n o.a ++ [32] ++ t o.p else [114, 111, 108, 101, 32] ++ n o.a ++ [32, 111, 118, 101, 114, 32] ++ n o.b) ++ [10])
def dig (n : Int) : Str := Lib.decDigits n.toNat
theorem dig_len {n : Int} (h : n < 100) : (dig n).length ≤ 2 := by
  unfold dig
  rw [Lib.decDigits_length]
  by_cases h1 : n.toNat < 10
  · rw [Lib.nDigits_small h1]; omega
  · rw [Lib.nDigits_big h1, Lib.nDigits_small (by omega)]; omega
def txtO (X : List COp) (n : Int → Str) (t : Perm → Str) (k : Nat) : Str := (X.take k).flatMap fun o => lineO o n t
theorem txt_succ {X : List COp} {n : Int → Str} {t : Perm → Str} {k : Nat} (h : k < X.length) : txtO X n t (k + 1) = txtO X n t k ++ lineO (X.getD k coz) n t := by
  unfold txtO
  rw [takeD (z := coz) h, List.flatMap_append]; simp
theorem line_len {o : COp} {n : Int → Str} {t : Perm → Str} (h1 : (n o.a).length ≤ 2) (h2 : (n o.b).length ≤ 2) (h3 : (n o.u).length ≤ 2) (h4 : (t o.p).length ≤ 2000003) : (lineO o n t).length ≤ 3000000 := by
  have hs : (if o.add then ([43, 32] : Str) else [45, 32]).length = 2 := by split <;> rfl
  unfold lineO
  rw [List.length_append, hs]
  by_cases k1 : o.k = 1
  · rw [if_pos k1]; simp only [List.length_append, List.length_cons, List.length_nil]; omega
  · rw [if_neg k1]
    by_cases k2 : o.k = 2
    · rw [if_pos k2]; simp only [List.length_append, List.length_cons, List.length_nil]; omega
    · rw [if_neg k2]; simp only [List.length_append, List.length_cons, List.length_nil]; omega
def takeT (l m : List COp) : Nat → List COp
  | 0 => []
  | 1 => l
  | _ => l ++ m
theorem o_idx2 {P : Program} {fr : Fr} {w : World} {d : Option Nat} {t : TypeId} {ps : String} {af : Array Edge} {g : Option (Nat × Bool)} {x y : Operand} {T : TypeId} {p q : Value} {k : Nat} {e : TypeId} (hT : P.underlying T = some (.array 2 e)) (ha : ∀ w, (isAgg e).run P w = .ok false w) (hs : ∀ w, (sizeOf e).run P w = .ok 1 w) (hx : ev fr x = .agg #[p, q]) (hy : ev fr y = .int .i64 (k : Int)) (hk : k < 2) :
    xop P fr w ⟨d, .index T x y, t, ps, af, g⟩ = .ok (.value (if k = 0 then p else q)) w := by
  match k, hk with
  | 0, _ => simp [xop, execOp, hx, hy, Instr.index, run_underlying hT, asIntOf, part, ha, hs]
  | 1, _ => simp [xop, execOp, hx, hy, Instr.index, run_underlying hT, asIntOf, part, ha, hs]
theorem o_idx20 {P : Program} {fr : Fr} {w : World} {d : Option Nat} {t : TypeId} {ps : String} {af : Array Edge} {g : Option (Nat × Bool)} {x y : Operand} {T : TypeId} {p q : Value} {e : TypeId} (hT : P.underlying T = some (.array 2 e)) (ha : ∀ w, (isAgg e).run P w = .ok false w) (hs : ∀ w, (sizeOf e).run P w = .ok 1 w) (hx : ev fr x = .agg #[p, q]) (hy : ev fr y = .int .i64 ((0 : Nat) : Int)) : xop P fr w ⟨d, .index T x y, t, ps, af, g⟩ = .ok (.value p) w := o_idx2 hT ha hs hx hy (by decide)
theorem o_idx21 {P : Program} {fr : Fr} {w : World} {d : Option Nat} {t : TypeId} {ps : String} {af : Array Edge} {g : Option (Nat × Bool)} {x y : Operand} {T : TypeId} {p q : Value} {e : TypeId} (hT : P.underlying T = some (.array 2 e)) (ha : ∀ w, (isAgg e).run P w = .ok false w) (hs : ∀ w, (sizeOf e).run P w = .ok 1 w) (hx : ev fr x = .agg #[p, q]) (hy : ev fr y = .int .i64 ((1 : Nat) : Int)) : xop P fr w ⟨d, .index T x y, t, ps, af, g⟩ = .ok (.value q) w := o_idx2 hT ha hs hx hy (by decide)
end Go.Lx
