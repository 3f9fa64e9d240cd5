/- Several texts in one file. -/
import Derived.Test.YtdnkjdmfnmdpdaaGreatDoorKo
import Derived.Test.YtdnkjdmfnmdpdaaGreatDoorLoop
import Derived.Test.YtdnkjdmfnmdpdaaGreatDoorWit
import Derived.Test.YtdnkjdmfnmdpdaaGreatDoorDraw
import Derived.Test.YtdnkjdmfnmdpdaaGreatDoorHy
set_option linter.unusedSimpArgs false
set_option linter.unusedVariables false
set_option linter.unnecessarySimpa false
/- Two sets one after the other, key by key: plain laws. Nothing of a program stands here. -/
namespace Go.Lx
open Go
theorem comp_insK {l l' : List OKey} (hv : ∀ x ∈ l, Wk x) (hp : l'.Perm l) (hs : l'.Pairwise (fun x y => cmpK x y ≤ 0)) : compL l' = insAll cmpK l := by
 have hv' : ∀ x ∈ l', Wk x := fun x hx => hv x (hp.mem_iff.1 hx)
 have h1 := wkL_map l hv
 have h2 := wkL_map l' hv'
 generalize wkL l hv = a at h1
 generalize wkL l' hv' = b at h2
 subst h1 h2
 rw [List.pairwise_map] at hs
 have hi : ∀ a b : WK, a.1 = b.1 → a = b := fun a b h => Subtype.ext h
 have hm : ∀ (l : List WK) (x : WK), x ∈ l ↔ x.1 ∈ l.map (fun y => y.1) := by
  intro l x
  rw [List.mem_map]
  exact ⟨fun h => ⟨x, h, rfl⟩, fun ⟨y, h, e⟩ => hi y x e ▸ h⟩
 have hp' : ∀ x, x ∈ b ↔ x ∈ a := fun x => by rw [hm b, hm a]; exact hp.mem_iff
 have := comp_ins cmpK_is hp' hs
 have e1 := compFold_map (m := fun x : WK => x.1) hi b []
 have e2 := insFold_map (f := cmpK) (m := fun x : WK => x.1) hi a []
 exact e1.trans ((congrArg (List.map fun x : WK => x.1) this).trans e2.symm)
def keysU (X Y : List COp) : List OKey := insAll cmpK (keysO X ++ keysO Y)
def thK (X Y : List COp) (κ : OKey) : List COp × Bool := thenO (opK X κ false) (opK X κ true) (opK Y κ false) (opK Y κ true)
def thF (X Y : List COp) (K : List OKey) : List COp := K.flatMap fun κ => (thK X Y κ).1
def thenS (X Y : List COp) : List COp × Int := if (keysU X Y).all (fun κ => (thK X Y κ).2) then ofO (thF X Y (keysU X Y)) else ([], 7)
theorem keysU_of {X Y : List COp} (hX : VS X) (hY : VS Y) {m : List OKey} (hp : m.Perm (keysO X ++ keysO Y)) (hs : m.Pairwise fun x y => cmpK x y ≤ 0) : compL m = keysU X Y :=
 comp_insK (fun x hx => (List.mem_append.1 hx).elim (keys_wk hX x) (keys_wk hY x)) hp hs
theorem keysU_len {X Y : List COp} {m : List OKey} (hp : m.Perm (keysO X ++ keysO Y)) (h : compL m = keysU X Y) : (keysU X Y).length ≤ X.length + Y.length := by
 rw [← h]
 have h1 := compL_len m
 have h2 := hp.length_eq
 have h3 := keysO_len X
 have h4 := keysO_len Y
 rw [List.length_append] at h2
 omega
theorem opK_mem {X : List COp} {κ : OKey} {b : Bool} {o : COp} (h : opK X κ b = some o) : o ∈ X := by
 unfold opK at h
 obtain ⟨i, hi, rfl⟩ := Option.map_eq_some_iff.1 h
 exact gm (lastN_lt hi).1
theorem tl_le {α : Type} (o : Option α) : o.toList.length ≤ 1 := by cases o <;> simp
theorem thenO_eq (r1 a1 r2 a2 : Option COp) : ∃ (b f : Option COp) (c1 c2 : Bool), thenO r1 a1 r2 a2 = (if c1 then ([], false) else if c2 then ([], true) else ((b.toList.map fun o => { o with add := false }) ++ (f.toList.map fun o => { o with add := true }), true)) ∧ (b = r1 ∨ b = r2) ∧ (f = a2 ∨ f = a1 ∨ f = r2) := by
 refine ⟨if r1.isSome || a1.isSome then r1 else r2, if r2.isSome || a2.isSome then a2 else if r1.isSome || a1.isSome then a1 else r2, _, _, rfl, ?_, ?_⟩
 ·split
  ·exact .inl rfl
  ·exact .inr rfl
 ·split
  ·exact .inl rfl
  ·split
   ·exact .inr (.inl rfl)
   ·exact .inr (.inr rfl)
theorem thenO_mem {r1 a1 r2 a2 : Option COp} {x : COp} (h : x ∈ (thenO r1 a1 r2 a2).1) : ∃ o b, (r1 = some o ∨ a1 = some o ∨ r2 = some o ∨ a2 = some o) ∧ x = { o with add := b } := by
 obtain ⟨b, f, c1, c2, e, hb, hf⟩ := thenO_eq r1 a1 r2 a2
 rw [e] at h
 cases c1 with
 | true => cases h
 | false =>
  cases c2 with
  | true => cases h
  | false =>
   rcases List.mem_append.1 h with h | h
   ·obtain ⟨o, ho, rfl⟩ := List.mem_map.1 h
    rw [Option.mem_toList] at ho
    refine ⟨o, _, ?_, rfl⟩
    rcases hb with rfl | rfl
    ·exact .inl ho
    ·exact .inr (.inr (.inl ho))
   ·obtain ⟨o, ho, rfl⟩ := List.mem_map.1 h
    rw [Option.mem_toList] at ho
    refine ⟨o, _, ?_, rfl⟩
    rcases hf with rfl | rfl | rfl
    ·exact .inr (.inr (.inr ho))
    ·exact .inr (.inl ho)
    ·exact .inr (.inr (.inl ho))
theorem thenO_len (r1 a1 r2 a2 : Option COp) : (thenO r1 a1 r2 a2).1.length ≤ 2 := by
 obtain ⟨b, f, c1, c2, e, hb, hf⟩ := thenO_eq r1 a1 r2 a2
 rw [e]
 cases c1 with
 | true => exact Nat.zero_le _
 | false =>
  cases c2 with
  | true => exact Nat.zero_le _
  | false =>
   show (_ ++ _ : List COp).length ≤ 2
   rw [List.length_append, List.length_map, List.length_map]
   exact Nat.add_le_add (tl_le _) (tl_le _)
theorem thF_ok {X Y : List COp} (hX : ∀ x ∈ X, x.p.ok) (hY : ∀ x ∈ Y, x.p.ok) (K : List OKey) : ∀ x ∈ thF X Y K, x.p.ok := fun x hx => by
 obtain ⟨κ, _, h⟩ := List.mem_flatMap.1 hx
 obtain ⟨o, b, ho, rfl⟩ := thenO_mem h
 rcases ho with h | h | h | h
 ·exact hX o (opK_mem h)
 ·exact hX o (opK_mem h)
 ·exact hY o (opK_mem h)
 ·exact hY o (opK_mem h)
theorem thF_len (X Y : List COp) : ∀ K : List OKey, (thF X Y K).length ≤ 2 * K.length
 | [] => Nat.le_refl _
 | κ :: r => by
  have h1 := thF_len X Y r
  have h2 : (thK X Y κ).1.length ≤ 2 := thenO_len _ _ _ _
  have e : thF X Y (κ :: r) = (thK X Y κ).1 ++ thF X Y r := rfl
  rw [e, List.length_append, List.length_cons]; omega
theorem thF_succ {X Y : List COp} {K : List OKey} {k : Nat} (h : k < K.length) : thF X Y (K.take (k + 1)) = thF X Y (K.take k) ++ (thK X Y (K.getD k okz)).1 := by
 have e : K.getD k okz = K[k] := by simp [List.getD, h]
 unfold thF
 rw [List.take_succ_eq_append_getElem h, List.flatMap_append, e]; simp
theorem all_succ {X Y : List COp} {K : List OKey} {k : Nat} (h : k < K.length) (h1 : (K.take k).all (fun κ => (thK X Y κ).2) = true) (h2 : (thK X Y (K.getD k okz)).2 = true) : (K.take (k + 1)).all (fun κ => (thK X Y κ).2) = true := by
 have e : K.getD k okz = K[k] := by simp [List.getD, h]
 rw [List.take_succ_eq_append_getElem h, List.all_append, h1, ← e]
 show (true && ((thK X Y (K.getD k okz)).2 && true)) = true
 rw [h2]; rfl
theorem all_no {X Y : List COp} {K : List OKey} {k : Nat} (h : k < K.length) (h2 : (thK X Y (K.getD k okz)).2 = false) : K.all (fun κ => (thK X Y κ).2) = false :=
 List.all_eq_false.2 ⟨K.getD k okz, gm h, by rw [h2]; simp⟩
/- the chapter's example -/
def fA : List COp := [awO false 1 5, awO true 1 9]
def fD : List COp := [awO false 1 9]
def fI : List COp := [awO false 1 9, awO true 1 5]
def fX : List COp := [awO false 1 5]
def fT : Str := [45, 32, 117, 115, 101, 114, 32, 49, 32, 114, 111, 108, 101, 32, 50, 32, 117, 110, 116, 105, 108, 32, 53, 10, 43, 32, 117, 115, 101, 114, 32, 49, 32, 114, 111, 108, 101, 32, 50, 32, 117, 110, 116, 105, 108, 32, 57, 10]
def fT1 : Str := [45, 32, 117, 115, 101, 114, 32, 49, 32, 114, 111, 108, 101, 32, 50, 32, 117, 110, 116, 105, 108, 32, 53, 10]
theorem fA_vs : VS fA := by
 refine ⟨?_, by decide +kernel, by decide +kernel⟩
 intro x hx
 simp only [fA, List.mem_cons, List.not_mem_nil, or_false] at hx
 rcases hx with rfl | rfl <;> exact ⟨⟨by decide, by decide⟩, by decide +kernel⟩
theorem fI_vs : VS fI := by
 refine ⟨?_, by decide +kernel, by decide +kernel⟩
 intro x hx
 simp only [fI, List.mem_cons, List.not_mem_nil, or_false] at hx
 rcases hx with rfl | rfl <;> exact ⟨⟨by decide, by decide⟩, by decide +kernel⟩
theorem fD_vs : VS fD := by
 refine ⟨?_, by decide +kernel, by decide +kernel⟩
 intro x hx
 simp only [fD, List.mem_cons, List.not_mem_nil, or_false] at hx
 rcases hx with rfl; exact ⟨⟨by decide, by decide⟩, by decide +kernel⟩
theorem f_of : ofO [awO true 1 9, awO false 1 5] = (fA, 0) := by decide +kernel
theorem f_txt : txtO fA dig textS fA.length = fT := by decide +kernel
theorem f_txt1 : txtO fX dig textS fX.length = fT1 := by decide +kernel
theorem f_keys : (keysO fA).length = 1 := by decide +kernel
theorem f_then : thenS fA fD = (fX, 0) := by decide +kernel
theorem f_inv : invO fA = fI := by decide +kernel
theorem f_cf : CF (fA.map flipO) := by decide +kernel
theorem f_thenI : thenS fA fI = ([], 0) := by decide +kernel
end Go.Lx
/- The ways of a statement come together again: what comes behind it is walked once. Nothing of a program stands here. -/
namespace Go.Lx
open Go
theorem W_join {rd : Option Nat} {P : Program} {n : Nat} {c d : Code} {K : Fr → World → Prop} {E : Nat → Fr → World → Prop} {Rt : Fr → World → Prop} {fr : Fr} {w : World} {α : Type}
  (R : List (Nat × Nat)) (S : α → List (Nat × Value)) (I : α → World → Prop)
  (h1 : W rd P n c (fun fr' w' => ∃ y, slotsOk fr' (S y) ∧ Off R fr fr' ∧ I y w') E Rt fr w)
  (h2 : ∀ x base w, I x w → W rd P n d K E Rt (setL (mix R fr base) (S x)) w) : W rd P n (.seq c d) K E Rt fr w := by
 refine Qd (h1.mono ?_ (fun _ _ _ h => h) (fun _ _ h => h))
 rintro fr' w' ⟨x, h3, h4, h5⟩
 have := h2 x fr' w' h5
 rwa [mix_same h4, setL_same h3] at this
section
variable {P : Program} {fr : Fr} {w : World} {d : Option Nat} {t : TypeId} {ps : String} {af : Array Edge} {g : Option (Nat × Bool)} {x y : Operand} {T U : TypeId}
end
end Go.Lx
/- Two sets of ops one after the other, as the reference has it: the same. Nothing of a program stands here. -/
namespace Go.Lx
open Go
end Go.Lx
/- States after a set of ops, as far as more ops look at them. Nothing of a program stands here. -/
namespace Go.Lx
open Go Go.RowKit
section
variable {P : Program} {fr : Fr} {w : World} {d : Option Nat} {t : TypeId} {ps : String} {af : Array Edge} {g : Option (Nat × Bool)} {x y : Operand} {T U : TypeId} {k : IntKind} {a : W64} {i : Int}
end
end Go.Lx
/- Pointers to ops, or none. Nothing of a program stands here. -/
namespace Go.Lx
open Go Go.RowKit
def PtO (F : Nat → Prop) (w : World) (p : Option Addr) (o : Option COp) : Prop := (p = none ∧ o = none) ∨ ∃ g off x, p = some ⟨g, off, none⟩ ∧ o = some x ∧ (F g ∧ g < w.heap.size) ∧ At w g off (encCo x)
section
variable {F : Nat → Prop} {w w' : World} {p : Option Addr} {o : Option COp}
theorem PtO.keep {γ : Prop} {D : Nat → Prop} (h : PtO F w p o) (x : Bel γ D w w') (hd : ∀ g, g < w.heap.size → F g → ¬ D g) : PtO F w' p o := by
 rcases h with h | ⟨g, off, y, h1, h2, h3, h4⟩
 ·exact .inl h
 ·exact .inr ⟨g, off, y, h1, h2, ⟨h3.1, Nat.lt_of_lt_of_le h3.2 x.size⟩, h4.keep x (hd g h3.2 h3.1)⟩
theorem PtO.ext {γ : Prop} (h : PtO F w p o) (x : Ext γ w w') : PtO F w' p o := h.keep x fun _ _ _ h => h
theorem PtO.some (h : PtO F w p o) : p.isNone = o.isNone := by
 rcases h with ⟨rfl, rfl⟩ | ⟨g, off, y, rfl, rfl, _⟩ <;> rfl
theorem PtO.get (h : PtO F w p o) (ho : o.isSome = true) : ∃ g off x, p = Option.some ⟨g, off, none⟩ ∧ o = Option.some x ∧ (F g ∧ g < w.heap.size) ∧ At w g off (encCo x) := by
 rcases h with ⟨_, rfl⟩ | h
 ·cases ho
 ·exact h
theorem Sl.ptO {a : Option Addr} {c : Nat} {X : List COp} (h : Sl encCo 8 F w a c X) (κ : OKey) (b : Bool) : PtO F w (px a (lastK X κ b)) (opK X κ b) := by
 unfold opK
 cases hl : lastK X κ b with
 | none => exact .inl ⟨rfl, rfl⟩
 | some i =>
  have hi := (lastN_lt hl).1
  obtain ⟨g, off, rfl, h2, h3, _⟩ := h.el i (X.getD i coz) (Zh coz hi)
  exact .inr ⟨g, off + i * 8, _, elp_some g off (i * 8), rfl, h2, h3⟩
variable {P : Program} {fr : Fr} {d : Option Nat} {t : TypeId} {ps : String} {af : Array Edge} {gd : Option (Nat × Bool)} {x y : Operand} {T U : TypeId}
theorem o_pneP {tp : TypeId} (hT : P.underlying T = Option.some (.pointer tp)) (h : PtO F w' p o) (hx : ev fr x = .pointer p) (hy : ev fr y = .pointer none) : xop P fr w ⟨d, .binOp .neq T x y U, t, ps, af, gd⟩ = .ok (.value (.bool o.isSome)) w := by
 rw [o_pne hT hx hy, h.some]; cases o <;> rfl
theorem o_peqP {tp : TypeId} (hT : P.underlying T = Option.some (.pointer tp)) (h : PtO F w' p o) (hx : ev fr x = .pointer p) (hy : ev fr y = .pointer none) : xop P fr w ⟨d, .binOp .eql T x y U, t, ps, af, gd⟩ = .ok (.value (.bool o.isNone)) w := by
 rw [o_peq hT hx hy, h.some]
theorem o_nilcP (h : PtO F w' p o) (ho : o.isSome = true) (hx : ev fr x = .pointer p) : xop P fr w ⟨d, .nilCheck x, t, ps, af, gd⟩ = .ok (.value (.pointer p)) w := by
 obtain ⟨g, off, z, rfl, _⟩ := h.get ho
 exact Zo hx
theorem o_faP {fs : Array Field} {f n : Nat} {Fd : Field} (hP : P.underlying T = Option.some (.struct fs)) (hf : fs[f]? = Option.some Fd) (hs : ∀ w, (sizeOf Fd.type).run P w = .ok (n + 1) w) (h : PtO F w' p o) (ho : o.isSome = true) (hx : ev fr x = .pointer p) :
  xop P fr w ⟨d, .fieldAddr T x f, t, ps, af, gd⟩ = .ok (.value (.pointer (elp p Fd.offset))) w := by
 obtain ⟨g, off, z, rfl, _⟩ := h.get ho
 rw [elp_some]
 exact QB hP hf hs hx
theorem o_ldP (ha : ∀ w, (isAgg T).run P w = .ok false w) (h : PtO F w p o) (ho : o.isSome = true) (hx : ev fr x = .pointer (elp p 4)) : xop P fr w ⟨d, .load T x, t, ps, af, gd⟩ = .ok (.value (.int .i64 (o.getD coz).u)) w := by
 obtain ⟨g, off, z, rfl, rfl, _, h4⟩ := h.get ho
 rw [elp_some] at hx
 exact Qo ha hx (h4.get 4 rfl)
end
theorem nnO {α : Type} {o : Option α} (h : (o.isNone == false) = true) : o.isSome = true := by cases o <;> simp_all
theorem ssR {α : Type} {a : Bool} {o : Option α} (h : ((a && o.isSome) == true) = true) : o.isSome = true := by cases a <;> simp_all
theorem ssL {α : Type} {a : Bool} {o : Option α} (h : ((o.isSome && a) == true) = true) : o.isSome = true := by cases a <;> simp_all
theorem noO {α : Type} {o : Option α} (h : o.isSome = false) : o = none := by cases o <;> simp_all
section
variable {r1 a1 r2 a2 om ob oa : Option COp}
def failO (r1 a1 r2 a2 om : Option COp) : Bool := ((r1.isSome || a1.isSome) && r2.isSome) && (om.isNone || (om.getD coz).u != (r2.getD coz).u) || ((((r1.isSome || a1.isSome) && r2.isNone) && a2.isSome) && om.isSome)
def sameO (ob oa : Option COp) : Bool := (ob.isSome && oa.isSome) && (ob.getD coz).u == (oa.getD coz).u
def offO (o : Option COp) : List COp := o.toList.map fun o => { o with add := false }
def onO (o : Option COp) : List COp := o.toList.map fun o => { o with add := true }
theorem takeT_len (ob oa : Option COp) (k : Nat) : (takeT (offO ob) (onO oa) k).length ≤ 2 := by
 match k with
 | 0 => exact Nat.zero_le _
 | 1 => show (offO ob).length ≤ 2; cases ob <;> simp [offO]
 | k + 2 => show (offO ob ++ onO oa).length ≤ 2; cases ob <;> cases oa <;> simp [offO, onO]
theorem thenO_fail (hm : om = if (r1.isSome || a1.isSome) = true then a1 else r2) (h : failO r1 a1 r2 a2 om = true) : thenO r1 a1 r2 a2 = ([], false) := by
 subst hm; exact if_pos h
theorem thenO_same (hb : ob = if (r1.isSome || a1.isSome) = true then r1 else r2) (hm : om = if (r1.isSome || a1.isSome) = true then a1 else r2) (ha : oa = if (r2.isSome || a2.isSome) = true then a2 else om) (h : failO r1 a1 r2 a2 om = false) (hs : sameO ob oa = true) : thenO r1 a1 r2 a2 = ([], true) := by
 subst ha hm hb
 exact (if_neg (by intro e; exact Bool.noConfusion (h.symm.trans e))).trans (if_pos hs)
theorem thenO_two (hb : ob = if (r1.isSome || a1.isSome) = true then r1 else r2) (hm : om = if (r1.isSome || a1.isSome) = true then a1 else r2) (ha : oa = if (r2.isSome || a2.isSome) = true then a2 else om) (h : failO r1 a1 r2 a2 om = false) (hs : sameO ob oa = false) : thenO r1 a1 r2 a2 = (offO ob ++ onO oa, true) := by
 subst ha hm hb
 exact (if_neg (by intro e; exact Bool.noConfusion (h.symm.trans e))).trans (if_neg (by intro e; exact Bool.noConfusion (hs.symm.trans e)))
end
end Go.Lx
/- Reading numbers and byte strings from the front of bytes: plain law. Nothing of a program stands here. -/
namespace Go.Lx
open Go
def grp (v : W64) (b : UInt8) : W64 := (v <<< 7) ||| BitVec.ofNat 64 (b &&& 127).toNat
def numGo : Nat → W64 → List UInt8 → W64 × Nat
 | _, _, [] => (0, 0)
 | k, v, b :: r => if ((k == 0 && b == 128) || decide (144115188075855871 < v.toNat)) = true then (0, 0) else if b.toNat < 128 then (grp v b, k + 1) else numGo (k + 1) (grp v b) r
def numR (l : List UInt8) : W64 × Nat := numGo 0 0 l
theorem and127 (b : UInt8) : (b &&& 127).toNat = b.toNat % 128 := by
 rw [UInt8.toNat_and]
 exact Nat.and_two_pow_sub_one_eq_mod b.toNat 7
theorem grp_nat {v : W64} {b : UInt8} (h : v.toNat < 2 ^ 57) : (grp v b).toNat = v.toNat * 128 + b.toNat % 128 := by
 have h1 : (BitVec.ofNat 64 (b &&& 127).toNat).toNat = b.toNat % 128 := by
  rw [BitVec.toNat_ofNat, and127]; omega
 have h2 : (v <<< 7).toNat = v.toNat * 128 := by
  rw [BitVec.toNat_shiftLeft, Nat.shiftLeft_eq]; omega
 rw [grp, BitVec.toNat_or, h1, h2]
 have h3 := Nat.two_pow_add_eq_or_of_lt (i := 7) (b := b.toNat % 128) (by omega) v.toNat
 rw [Nat.mul_comm] at h3
 exact h3.symm
theorem numGo_le : ∀ (l : List UInt8) (k : Nat) (v : W64), (numGo k v l).2 ≤ k + l.length
 | [], k, v => by simp [numGo]
 | b :: r, k, v => by
  rw [numGo]
  split
  ·simp
  split
  ·simp
  ·have := numGo_le r (k + 1) (grp v b)
   rw [List.length_cons]; omega
theorem numR_le (l : List UInt8) : (numR l).2 ≤ l.length := by have := numGo_le l 0 0; rw [numR]; omega
theorem numC (k : Nat) (c : UInt8) (y : W64) : (((k : Int) == 0 && (c.toNat : Int) == 128) || decide ((144115188075855871 : Int) < (y.toNat : Int))) = ((k == 0 && c == 128) || decide (144115188075855871 < y.toNat)) := by
 have e1 : ((k : Int) == 0) = (k == 0) := by rw [Bool.eq_iff_iff]; simp
 have e2 : ((c.toNat : Int) == 128) = (c == 128) := by
  rw [Bool.eq_iff_iff, beq_iff_eq, beq_iff_eq, ← UInt8.toNat_inj]
  have : (128 : UInt8).toNat = 128 := rfl
  omega
 have e3 : decide ((144115188075855871 : Int) < (y.toNat : Int)) = decide (144115188075855871 < y.toNat) := by
  rw [Bool.eq_iff_iff, decide_eq_true_iff, decide_eq_true_iff]; omega
 rw [e1, e2, e3]
theorem drop_cons {l : List UInt8} {k : Nat} (h : k < l.length) : l.drop k = l.getD k 0 :: l.drop (k + 1) := by
 have e : l[k] = l.getD k 0 := by simp [List.getD, h]
 rw [← e]; exact List.drop_eq_getElem_cons h
theorem numGo_bad {l : List UInt8} {k : Nat} {v : W64} (h : k < l.length) (hb : ((k == 0 && l.getD k 0 == 128) || decide (144115188075855871 < v.toNat)) = true) : numGo k v (l.drop k) = (0, 0) := by
 rw [drop_cons h, numGo, if_pos hb]
theorem numGo_stop {l : List UInt8} {k : Nat} {v : W64} (h : k < l.length) (hb : ¬ ((k == 0 && l.getD k 0 == 128) || decide (144115188075855871 < v.toNat)) = true) (hs : (l.getD k 0).toNat < 128) : numGo k v (l.drop k) = (grp v (l.getD k 0), k + 1) := by
 rw [drop_cons h, numGo, if_neg hb, if_pos hs]
theorem numGo_on {l : List UInt8} {k : Nat} {v : W64} (h : k < l.length) (hb : ¬ ((k == 0 && l.getD k 0 == 128) || decide (144115188075855871 < v.toNat)) = true) (hs : ¬ (l.getD k 0).toNat < 128) : numGo k v (l.drop k) = numGo (k + 1) (grp v (l.getD k 0)) (l.drop (k + 1)) := by
 rw [drop_cons h, numGo, if_neg hb, if_neg hs]
abbrev RSt := List UInt8 × Int
def failS (s : RSt) (e : Int) : RSt := if (s.2 == 0) = true then (s.1, e) else s
def refS (s : RSt) (bad : Bool) (e : Int) : RSt := if bad = true then failS s e else s
def uintS (s : RSt) (most : W64) : RSt × W64 := if (s.2 == 0) = true then (if (numR s.1).2 = 0 then ((s.1, 6), 0) else if most.toNat < (numR s.1).1.toNat then ((s.1, 2), 0) else ((s.1.drop (numR s.1).2, s.2), (numR s.1).1)) else (s, 0)
theorem uintS_le (s : RSt) (most : W64) : (uintS s most).2.toNat ≤ most.toNat := by
 unfold uintS
 split
 ·split
  ·simp
  split
  ·simp
  ·simp only; omega
 ·simp
def countS (s : RSt) (most : Nat) : RSt × Nat := if (s.2 == 0) = true then (if (numR s.1).2 = 0 then ((s.1, 6), 0) else if most < (numR s.1).1.toNat then ((s.1, 3), 0) else ((s.1.drop (numR s.1).2, s.2), (numR s.1).1.toNat)) else (s, 0)
def bytesS (s : RSt) (most : Nat) : RSt × List UInt8 := if (s.2 == 0) = true then (if (numR s.1).2 = 0 then ((s.1, 6), []) else if most < (numR s.1).1.toNat then ((s.1, 3), []) else if s.1.length - (numR s.1).2 < (numR s.1).1.toNat then ((s.1, 6), []) else ((s.1.drop ((numR s.1).2 + (numR s.1).1.toNat), s.2), (s.1.drop (numR s.1).2).take (numR s.1).1.toNat)) else (s, [])
def flagS (s : RSt) : RSt × Bool := if (s.2 == 0) = true then (if s.1 = [] ∨ 1 < (s.1.getD 0 0).toNat then ((s.1, 6), false) else ((s.1.drop 1, s.2), s.1.getD 0 0 == 1)) else (s, false)
def endS (s : RSt) : Int := if (s.2 == 0) = true ∧ s.1 ≠ [] then 6 else s.2
theorem flag_eq (c : UInt8) : ((c.toNat : Int) == 1) = (c == 1) := by
 rw [Bool.eq_iff_iff, beq_iff_eq, beq_iff_eq, ← UInt8.toNat_inj]
 have : (1 : UInt8).toNat = 1 := rfl
 omega
end Go.Lx
