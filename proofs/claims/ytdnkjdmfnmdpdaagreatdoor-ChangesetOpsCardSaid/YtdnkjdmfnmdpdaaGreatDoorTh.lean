/- Several texts in one file. -/
import Derived.Test.YtdnkjdmfnmdpdaaGreatDoorKo
import Derived.Test.YtdnkjdmfnmdpdaaGreatDoorSv
import Derived.Lib.ItoaNum
import Derived.Test.YtdnkjdmfnmdpdaaGreatDoorCall
import Derived.Test.YtdnkjdmfnmdpdaaGreatDoorPure11f
import Derived.Test.YtdnkjdmfnmdpdaaGreatDoorDraw
set_option linter.unusedSimpArgs false
set_option linter.unusedVariables false
set_option linter.unnecessarySimpa false
/- Sets of ops one after the other: what a key had and has. Nothing of a program stands here. -/
namespace Go.Lx
open Go
def lastN (l : List COp) (κ : OKey) (b : Bool) : Nat → Option Nat
  | 0 => none
  | n + 1 => if (l.getD n coz).key = κ ∧ (l.getD n coz).add = b then some n else lastN l κ b n
def lastK (l : List COp) (κ : OKey) (b : Bool) : Option Nat := lastN l κ b l.length
def px (a : Option Addr) (i : Option Nat) : Option Addr := i.bind fun i => elp a (i * 8)
theorem lastN_lt {l : List COp} {κ : OKey} {b : Bool} {i : Nat} : ∀ {n : Nat}, lastN l κ b n = some i → i < n ∧ (l.getD i coz).key = κ ∧ (l.getD i coz).add = b
  | 0, h => by cases h
  | n + 1, h => by
    unfold lastN at h
    split at h
    · rename_i hc
      obtain rfl : n = i := by simpa using h
      exact ⟨Nat.lt_succ_self _, hc⟩
    · obtain ⟨h1, h2⟩ := lastN_lt h
      exact ⟨Nat.lt_succ_of_lt h1, h2⟩
def opK (l : List COp) (κ : OKey) (b : Bool) : Option COp := (lastK l κ b).map fun i => l.getD i coz
def flipO (o : COp) : COp := { o with add := !o.add }
def invO (l : List COp) : List COp := sortO (l.map flipO)
theorem Vo.flip {o : COp} (h : Vo o) : Vo (flipO o) := ⟨h.ok, h.chk⟩
theorem inv_get {X : List COp} {k : Nat} (h : k < X.length) : ((X.take k).map flipO ++ X.drop k)[k]? = some (X.getD k coz) := by
  rw [List.getElem?_append_right (by simp; omega)]
  simp [List.getD, h, Nat.min_eq_left (Nat.le_of_lt h)]
theorem inv_set {X : List COp} {k : Nat} (h : k < X.length) : ((X.take k).map flipO ++ X.drop k).set k (flipO (X.getD k coz)) = (X.take (k + 1)).map flipO ++ X.drop (k + 1) := by
  have e1 : ((X.take k).map flipO).length = k := by rw [List.length_map, List.length_take]; omega
  rw [List.set_append_right _ _ (by omega), e1, Nat.sub_self, List.drop_eq_getElem_cons h, List.set_cons_zero, takeD (z := coz) h, List.map_append, List.append_assoc]
  rfl
def thenO (r1 a1 r2 a2 : Option COp) : List COp × Bool :=
  let known := r1.isSome || a1.isSome
  let before := if known then r1 else r2
  let middle := if known then a1 else r2
  if (known && r2.isSome && (middle.isNone || (middle.getD coz).u != (r2.getD coz).u)) || (known && r2.isNone && a2.isSome && middle.isSome) then ([], false) else
  let after := if r2.isSome || a2.isSome then a2 else middle
  if before.isSome && after.isSome && (before.getD coz).u == (after.getD coz).u then ([], true) else
  ((before.toList.map fun o => { o with add := false }) ++ (after.toList.map fun o => { o with add := true }), true)
def lineO (o : COp) (n : Int → Str) (t : Perm → Str) : Str :=
  (if o.add then [43, 32] else [45, 32]) ++ ((if o.k = 1 then [117, 115, 101, 114, 32] ++ n o.a ++ [32, 114, 111, 108, 101, 32] ++ n o.b ++ [32, 117, 110, 116, 105, 108, 32] ++ n o.u
   else if o.k = 2 then [114, 111, 108, 101, 32] ++ n o.a ++ [32] ++ t o.p else [114, 111, 108, 101, 32] ++ n o.a ++ [32, 111, 118, 101, 114, 32] ++ n o.b) ++ [10])
def dig (n : Int) : Str := Lib.decDigits n.toNat
theorem dig_len {n : Int} (h : n < 100) : (dig n).length ≤ 2 := by
  unfold dig
  rw [Lib.decDigits_length]
  by_cases h1 : n.toNat < 10
  · rw [Lib.nDigits_small h1]; omega
  · rw [Lib.nDigits_big h1, Lib.nDigits_small (by omega)]; omega
def txtO (X : List COp) (n : Int → Str) (t : Perm → Str) (k : Nat) : Str := (X.take k).flatMap fun o => lineO o n t
theorem txt_succ {X : List COp} {n : Int → Str} {t : Perm → Str} {k : Nat} (h : k < X.length) : txtO X n t (k + 1) = txtO X n t k ++ lineO (X.getD k coz) n t := by
  unfold txtO
  rw [takeD (z := coz) h, List.flatMap_append]; simp
theorem line_len {o : COp} {n : Int → Str} {t : Perm → Str} (h1 : (n o.a).length ≤ 2) (h2 : (n o.b).length ≤ 2) (h3 : (n o.u).length ≤ 2) (h4 : (t o.p).length ≤ 2000003) : (lineO o n t).length ≤ 3000000 := by
  have hs : (if o.add then ([43, 32] : Str) else [45, 32]).length = 2 := by split <;> rfl
  unfold lineO
  rw [List.length_append, hs]
  by_cases k1 : o.k = 1
  · rw [if_pos k1]; simp only [List.length_append, List.length_cons, List.length_nil]; omega
  · rw [if_neg k1]
    by_cases k2 : o.k = 2
    · rw [if_pos k2]; simp only [List.length_append, List.length_cons, List.length_nil]; omega
    · rw [if_neg k2]; simp only [List.length_append, List.length_cons, List.length_nil]; omega
def takeT (l m : List COp) : Nat → List COp
  | 0 => []
  | 1 => l
  | _ => l ++ m
theorem o_idx2 {P : Program} {fr : Fr} {w : World} {d : Option Nat} {t : TypeId} {ps : String} {af : Array Edge} {g : Option (Nat × Bool)} {x y : Operand} {T : TypeId} {p q : Value} {k : Nat} {e : TypeId} (hT : P.underlying T = some (.array 2 e)) (ha : ∀ w, (isAgg e).run P w = .ok false w) (hs : ∀ w, (sizeOf e).run P w = .ok 1 w) (hx : ev fr x = .agg #[p, q]) (hy : ev fr y = .int .i64 (k : Int)) (hk : k < 2) :
    xop P fr w ⟨d, .index T x y, t, ps, af, g⟩ = .ok (.value (if k = 0 then p else q)) w := by
  match k, hk with
  | 0, _ => simp [xop, execOp, hx, hy, Instr.index, run_underlying hT, asIntOf, part, ha, hs]
  | 1, _ => simp [xop, execOp, hx, hy, Instr.index, run_underlying hT, asIntOf, part, ha, hs]
theorem o_idx20 {P : Program} {fr : Fr} {w : World} {d : Option Nat} {t : TypeId} {ps : String} {af : Array Edge} {g : Option (Nat × Bool)} {x y : Operand} {T : TypeId} {p q : Value} {e : TypeId} (hT : P.underlying T = some (.array 2 e)) (ha : ∀ w, (isAgg e).run P w = .ok false w) (hs : ∀ w, (sizeOf e).run P w = .ok 1 w) (hx : ev fr x = .agg #[p, q]) (hy : ev fr y = .int .i64 ((0 : Nat) : Int)) : xop P fr w ⟨d, .index T x y, t, ps, af, g⟩ = .ok (.value p) w := o_idx2 hT ha hs hx hy (by decide)
theorem o_idx21 {P : Program} {fr : Fr} {w : World} {d : Option Nat} {t : TypeId} {ps : String} {af : Array Edge} {g : Option (Nat × Bool)} {x y : Operand} {T : TypeId} {p q : Value} {e : TypeId} (hT : P.underlying T = some (.array 2 e)) (ha : ∀ w, (isAgg e).run P w = .ok false w) (hs : ∀ w, (sizeOf e).run P w = .ok 1 w) (hx : ev fr x = .agg #[p, q]) (hy : ev fr y = .int .i64 ((1 : Nat) : Int)) : xop P fr w ⟨d, .index T x y, t, ps, af, g⟩ = .ok (.value q) w := o_idx2 hT ha hs hx hy (by decide)
end Go.Lx
/- Two sets one after the other, key by key: plain laws. Nothing of a program stands here. -/
namespace Go.Lx
open Go
theorem comp_insK {l l' : List OKey} (hv : ∀ x ∈ l, Wk x) (hp : l'.Perm l) (hs : l'.Pairwise (fun x y => cmpK x y ≤ 0)) : compL l' = insAll cmpK l := by
  have hv' : ∀ x ∈ l', Wk x := fun x hx => hv x (hp.mem_iff.1 hx)
  have h1 := wkL_map l hv
  have h2 := wkL_map l' hv'
  generalize wkL l hv = a at h1
  generalize wkL l' hv' = b at h2
  subst h1 h2
  rw [List.pairwise_map] at hs
  have hi : ∀ a b : WK, a.1 = b.1 → a = b := fun a b h => Subtype.ext h
  have hm : ∀ (l : List WK) (x : WK), x ∈ l ↔ x.1 ∈ l.map (fun y => y.1) := by
    intro l x
    rw [List.mem_map]
    exact ⟨fun h => ⟨x, h, rfl⟩, fun ⟨y, h, e⟩ => hi y x e ▸ h⟩
  have hp' : ∀ x, x ∈ b ↔ x ∈ a := fun x => by rw [hm b, hm a]; exact hp.mem_iff
  have := comp_ins cmpK_is hp' hs
  have e1 := compFold_map (m := fun x : WK => x.1) hi b []
  have e2 := insFold_map (f := cmpK) (m := fun x : WK => x.1) hi a []
  exact e1.trans ((congrArg (List.map fun x : WK => x.1) this).trans e2.symm)
def keysU (X Y : List COp) : List OKey := insAll cmpK (keysO X ++ keysO Y)
def thK (X Y : List COp) (κ : OKey) : List COp × Bool := thenO (opK X κ false) (opK X κ true) (opK Y κ false) (opK Y κ true)
def thF (X Y : List COp) (K : List OKey) : List COp := K.flatMap fun κ => (thK X Y κ).1
def thenS (X Y : List COp) : List COp × Int := if (keysU X Y).all (fun κ => (thK X Y κ).2) then ofO (thF X Y (keysU X Y)) else ([], 7)
theorem keysU_of {X Y : List COp} (hX : VS X) (hY : VS Y) {m : List OKey} (hp : m.Perm (keysO X ++ keysO Y)) (hs : m.Pairwise fun x y => cmpK x y ≤ 0) : compL m = keysU X Y :=
  comp_insK (fun x hx => (List.mem_append.1 hx).elim (keys_wk hX x) (keys_wk hY x)) hp hs
theorem keysU_len {X Y : List COp} {m : List OKey} (hp : m.Perm (keysO X ++ keysO Y)) (h : compL m = keysU X Y) : (keysU X Y).length ≤ X.length + Y.length := by
  rw [← h]
  have h1 := compL_len m
  have h2 := hp.length_eq
  have h3 := keysO_len X
  have h4 := keysO_len Y
  rw [List.length_append] at h2
  omega
theorem opK_mem {X : List COp} {κ : OKey} {b : Bool} {o : COp} (h : opK X κ b = some o) : o ∈ X := by
  unfold opK at h
  obtain ⟨i, hi, rfl⟩ := Option.map_eq_some_iff.1 h
  exact gm (lastN_lt hi).1
theorem tl_le {α : Type} (o : Option α) : o.toList.length ≤ 1 := by cases o <;> simp
theorem thenO_eq (r1 a1 r2 a2 : Option COp) : ∃ (b f : Option COp) (c1 c2 : Bool), thenO r1 a1 r2 a2 = (if c1 then ([], false) else if c2 then ([], true) else ((b.toList.map fun o => { o with add := false }) ++ (f.toList.map fun o => { o with add := true }), true)) ∧ (b = r1 ∨ b = r2) ∧ (f = a2 ∨ f = a1 ∨ f = r2) := by
  refine ⟨if r1.isSome || a1.isSome then r1 else r2, if r2.isSome || a2.isSome then a2 else if r1.isSome || a1.isSome then a1 else r2, _, _, rfl, ?_, ?_⟩
  · split
    · exact .inl rfl
    · exact .inr rfl
  · split
    · exact .inl rfl
    · split
      · exact .inr (.inl rfl)
      · exact .inr (.inr rfl)
theorem thenO_mem {r1 a1 r2 a2 : Option COp} {x : COp} (h : x ∈ (thenO r1 a1 r2 a2).1) : ∃ o b, (r1 = some o ∨ a1 = some o ∨ r2 = some o ∨ a2 = some o) ∧ x = { o with add := b } := by
  obtain ⟨b, f, c1, c2, e, hb, hf⟩ := thenO_eq r1 a1 r2 a2
  rw [e] at h
  cases c1 with
  | true => cases h
  | false =>
    cases c2 with
    | true => cases h
    | false =>
      rcases List.mem_append.1 h with h | h
      · obtain ⟨o, ho, rfl⟩ := List.mem_map.1 h
        rw [Option.mem_toList] at ho
        refine ⟨o, _, ?_, rfl⟩
        rcases hb with rfl | rfl
        · exact .inl ho
        · exact .inr (.inr (.inl ho))
      · obtain ⟨o, ho, rfl⟩ := List.mem_map.1 h
        rw [Option.mem_toList] at ho
        refine ⟨o, _, ?_, rfl⟩
        rcases hf with rfl | rfl | rfl
        · exact .inr (.inr (.inr ho))
        · exact .inr (.inl ho)
        · exact .inr (.inr (.inl ho))
theorem thenO_len (r1 a1 r2 a2 : Option COp) : (thenO r1 a1 r2 a2).1.length ≤ 2 := by
  obtain ⟨b, f, c1, c2, e, hb, hf⟩ := thenO_eq r1 a1 r2 a2
  rw [e]
  cases c1 with
  | true => exact Nat.zero_le _
  | false =>
    cases c2 with
    | true => exact Nat.zero_le _
    | false =>
      show (_ ++ _ : List COp).length ≤ 2
      rw [List.length_append, List.length_map, List.length_map]
      exact Nat.add_le_add (tl_le _) (tl_le _)
theorem thF_ok {X Y : List COp} (hX : ∀ x ∈ X, x.p.ok) (hY : ∀ x ∈ Y, x.p.ok) (K : List OKey) : ∀ x ∈ thF X Y K, x.p.ok := fun x hx => by
  obtain ⟨κ, _, h⟩ := List.mem_flatMap.1 hx
  obtain ⟨o, b, ho, rfl⟩ := thenO_mem h
  rcases ho with h | h | h | h
  · exact hX o (opK_mem h)
  · exact hX o (opK_mem h)
  · exact hY o (opK_mem h)
  · exact hY o (opK_mem h)
theorem thF_len (X Y : List COp) : ∀ K : List OKey, (thF X Y K).length ≤ 2 * K.length
  | [] => Nat.le_refl _
  | κ :: r => by
    have h1 := thF_len X Y r
    have h2 : (thK X Y κ).1.length ≤ 2 := thenO_len _ _ _ _
    have e : thF X Y (κ :: r) = (thK X Y κ).1 ++ thF X Y r := rfl
    rw [e, List.length_append, List.length_cons]; omega
theorem thF_succ {X Y : List COp} {K : List OKey} {k : Nat} (h : k < K.length) : thF X Y (K.take (k + 1)) = thF X Y (K.take k) ++ (thK X Y (K.getD k okz)).1 := by
  have e : K.getD k okz = K[k] := by simp [List.getD, h]
  unfold thF
  rw [List.take_succ_eq_append_getElem h, List.flatMap_append, e]; simp
theorem all_succ {X Y : List COp} {K : List OKey} {k : Nat} (h : k < K.length) (h1 : (K.take k).all (fun κ => (thK X Y κ).2) = true) (h2 : (thK X Y (K.getD k okz)).2 = true) : (K.take (k + 1)).all (fun κ => (thK X Y κ).2) = true := by
  have e : K.getD k okz = K[k] := by simp [List.getD, h]
  rw [List.take_succ_eq_append_getElem h, List.all_append, h1, ← e]
  show (true && ((thK X Y (K.getD k okz)).2 && true)) = true
  rw [h2]; rfl
theorem all_no {X Y : List COp} {K : List OKey} {k : Nat} (h : k < K.length) (h2 : (thK X Y (K.getD k okz)).2 = false) : K.all (fun κ => (thK X Y κ).2) = false :=
  List.all_eq_false.2 ⟨K.getD k okz, gm h, by rw [h2]; simp⟩
/- the chapter's example -/
def fA : List COp := [awO false 1 5, awO true 1 9]
def fD : List COp := [awO false 1 9]
def fI : List COp := [awO false 1 9, awO true 1 5]
def fX : List COp := [awO false 1 5]
def fT : Str := [45, 32, 117, 115, 101, 114, 32, 49, 32, 114, 111, 108, 101, 32, 50, 32, 117, 110, 116, 105, 108, 32, 53, 10, 43, 32, 117, 115, 101, 114, 32, 49, 32, 114, 111, 108, 101, 32, 50, 32, 117, 110, 116, 105, 108, 32, 57, 10]
def fT1 : Str := [45, 32, 117, 115, 101, 114, 32, 49, 32, 114, 111, 108, 101, 32, 50, 32, 117, 110, 116, 105, 108, 32, 53, 10]
theorem fA_vs : VS fA := by
  refine ⟨?_, by decide +kernel, by decide +kernel⟩
  intro x hx
  simp only [fA, List.mem_cons, List.not_mem_nil, or_false] at hx
  rcases hx with rfl | rfl <;> exact ⟨⟨by decide, by decide⟩, by decide +kernel⟩
theorem fI_vs : VS fI := by
  refine ⟨?_, by decide +kernel, by decide +kernel⟩
  intro x hx
  simp only [fI, List.mem_cons, List.not_mem_nil, or_false] at hx
  rcases hx with rfl | rfl <;> exact ⟨⟨by decide, by decide⟩, by decide +kernel⟩
theorem fD_vs : VS fD := by
  refine ⟨?_, by decide +kernel, by decide +kernel⟩
  intro x hx
  simp only [fD, List.mem_cons, List.not_mem_nil, or_false] at hx
  rcases hx with rfl; exact ⟨⟨by decide, by decide⟩, by decide +kernel⟩
theorem f_of : ofO [awO true 1 9, awO false 1 5] = (fA, 0) := by decide +kernel
theorem f_txt : txtO fA dig textS fA.length = fT := by decide +kernel
theorem f_txt1 : txtO fX dig textS fX.length = fT1 := by decide +kernel
theorem f_keys : (keysO fA).length = 1 := by decide +kernel
theorem f_then : thenS fA fD = (fX, 0) := by decide +kernel
theorem f_inv : invO fA = fI := by decide +kernel
theorem f_cf : CF (fA.map flipO) := by decide +kernel
theorem f_thenI : thenS fA fI = ([], 0) := by decide +kernel
end Go.Lx
/- The ways of a statement come together again: what comes behind it is walked once. Nothing of a program stands here. -/
namespace Go.Lx
open Go
theorem W_join {rd : Option Nat} {P : Program} {n : Nat} {c d : Code} {K : Fr → World → Prop} {E : Nat → Fr → World → Prop} {Rt : Fr → World → Prop} {fr : Fr} {w : World} {α : Type}
    (R : List (Nat × Nat)) (S : α → List (Nat × Value)) (I : α → World → Prop)
    (h1 : W rd P n c (fun fr' w' => ∃ y, slotsOk fr' (S y) ∧ Off R fr fr' ∧ I y w') E Rt fr w)
    (h2 : ∀ x base w, I x w → W rd P n d K E Rt (setL (mix R fr base) (S x)) w) : W rd P n (.seq c d) K E Rt fr w := by
  refine W_seq (h1.mono ?_ (fun _ _ _ h => h) (fun _ _ h => h))
  rintro fr' w' ⟨x, h3, h4, h5⟩
  have := h2 x fr' w' h5
  rwa [mix_same h4, setL_same h3] at this
section
variable {P : Program} {fr : Fr} {w : World} {d : Option Nat} {t : TypeId} {ps : String} {af : Array Edge} {g : Option (Nat × Bool)} {x y : Operand} {T U : TypeId}
theorem o_rem32 {a b : Nat} (hx : ev fr x = .int .u32 (a : Int)) (hy : ev fr y = .int .u32 (b : Int)) (hb : 0 < b) (ha : a < 4294967296) : xop P fr w ⟨d, .binOp .rem T x y U, t, ps, af, g⟩ = .ok (.value (.int .u32 ((a % b : Nat) : Int))) w := by
  have h0 : (b : Int) ≠ 0 := by omega
  have e2 : (a : Int).tmod (b : Int) = ((a % b : Nat) : Int) := by rw [Int.tmod_eq_emod_of_nonneg (by omega)]; rfl
  have h3 : a % b ≤ a := Nat.mod_le _ _
  have e1 : IntKind.u32.wrap ((a % b : Nat) : Int) = ((a % b : Nat) : Int) := by simp [IntKind.wrap, IntKind.bits, IntKind.signed]; omega
  simp only [xop, execOp, hx, hy, eqGuard, binOp, Op.intDiv, h0, e2, e1, if_false]
  simp [e1]
theorem o_rem32i {a : Int} {b : Int} (hx : ev fr x = .int .i32 a) (hy : ev fr y = .int .i32 b) (hb : 0 < b) (hb2 : b < 2147483648) : xop P fr w ⟨d, .binOp .rem T x y U, t, ps, af, g⟩ = .ok (.value (.int .i32 (a.tmod b))) w := by
  have h0 : b ≠ 0 := by omega
  have h3 : a.tmod b < b := Int.tmod_lt_of_pos _ hb
  have h4 : -b < a.tmod b := Int.lt_tmod_of_pos _ hb
  have e1 : IntKind.i32.wrap (a.tmod b) = a.tmod b := by simp [IntKind.wrap, IntKind.bits, IntKind.signed]; omega
  simp only [xop, execOp, hx, hy, eqGuard, binOp, Op.intDiv, h0, e1, if_false]
  simp [e1]
theorem wrap_u32 {n : Nat} (h : n < 4294967296) : IntKind.u32.wrap (n : Int) = (n : Int) := by simp [IntKind.wrap, IntKind.bits, IntKind.signed]; omega
theorem o_conv32 {a : Int} (hP : P.underlying T = some (.int .i32)) (hP' : P.underlying U = some (.int .u32)) (hx : ev fr x = .int .i32 a) : xop P fr w ⟨d, .convert T U x, t, ps, af, g⟩ = .ok (.value (.int .u32 (((a % 4294967296).toNat : Nat) : Int))) w := by
  rw [o_conv hP hP' hx]
  have e1 : IntKind.u32.wrap a = (((a % 4294967296).toNat : Nat) : Int) := by
    have h1 : 0 ≤ a % 4294967296 := Int.emod_nonneg _ (by decide)
    rw [Int.toNat_of_nonneg h1]; simp [IntKind.wrap, IntKind.bits, IntKind.signed]
  rw [e1]
theorem set_all {α : Type} {Q : α → Prop} {l : List α} {i : Nat} {u : α} (h : ∀ o ∈ l, Q o) (hu : Q u) : ∀ o ∈ l.set i u, Q o := fun o ho => (List.mem_or_eq_of_mem_set ho).elim (h o) (fun e => e ▸ hu)
theorem all_getD {α : Type} {Q : α → Prop} {l : List α} {z : α} (h : ∀ j, j < l.length → Q (l.getD j z)) : ∀ x ∈ l, Q x := fun x hx => by
  obtain ⟨j, hj, e⟩ := List.getElem_of_mem hx
  have h1 := h j hj
  rw [show l.getD j z = x by rw [← e]; simp [List.getD, hj]] at h1
  exact h1
theorem ck_last {l : List OKey} (h : l ≠ []) : l.getLast? = some (l.getD (l.length - 1) okz) := by
  have hp := List.length_pos_iff.2 h
  rw [List.getLast?_eq_getElem?, List.getElem?_eq_getElem (by omega)]
  simp [List.getD, show l.length - 1 < l.length by omega]
theorem ck_yes {W : List COp} {k : Nat} (h : k < W.length) (hc : compL ((W.take k).map COp.key) = [] ∨ (compL ((W.take k).map COp.key)).getD ((compL ((W.take k).map COp.key)).length - 1) okz ≠ (W.getD k coz).key) : compL ((W.take (k + 1)).map COp.key) = compL ((W.take k).map COp.key) ++ [(W.getD k coz).key] := by
  rw [takeK h, comp_snoc]
  generalize compL ((W.take k).map COp.key) = A at *
  unfold compStep
  by_cases hA : A = []
  · rw [hA]; rfl
  · rw [ck_last hA]
    have h1 := hc.resolve_left hA
    rw [if_neg (by simpa using h1)]
theorem ck_no {W : List COp} {k : Nat} (h : k < W.length) (hA : ¬ compL ((W.take k).map COp.key) = []) (hc : (compL ((W.take k).map COp.key)).getD ((compL ((W.take k).map COp.key)).length - 1) okz = (W.getD k coz).key) : compL ((W.take (k + 1)).map COp.key) = compL ((W.take k).map COp.key) := by
  rw [takeK h, comp_snoc]
  generalize compL ((W.take k).map COp.key) = A at *
  unfold compStep
  rw [ck_last hA, if_pos (by simpa using hc)]
theorem ofO_mem {l : List COp} : ∀ x ∈ (ofO l).1, x ∈ l := by
  intro x hx
  unfold ofO at hx
  split at hx
  · cases hx
  · split at hx
    · exact (sortO_perm l).mem_iff.1 hx
    · cases hx
theorem ofO_len (l : List COp) : (ofO l).1.length ≤ l.length := by
  unfold ofO
  split
  · exact Nat.zero_le _
  · split
    · exact Nat.le_of_eq (sortO_perm l).length_eq
    · exact Nat.zero_le _
end
end Go.Lx
/- Two sets of ops one after the other, as the reference has it: the same. Nothing of a program stands here. -/
namespace Go.Lx
open Go
end Go.Lx
/- States after a set of ops, as far as more ops look at them. Nothing of a program stands here. -/
namespace Go.Lx
open Go Go.RowKit
section
variable {P : Program} {fr : Fr} {w : World} {d : Option Nat} {t : TypeId} {ps : String} {af : Array Edge} {g : Option (Nat × Bool)} {x y : Operand} {T U : TypeId} {k : IntKind} {a : W64} {i : Int}
end
end Go.Lx
/- Pointers to ops, or none. Nothing of a program stands here. -/
namespace Go.Lx
open Go Go.RowKit
def PtO (F : Nat → Prop) (w : World) (p : Option Addr) (o : Option COp) : Prop := (p = none ∧ o = none) ∨ ∃ g off x, p = some ⟨g, off, none⟩ ∧ o = some x ∧ (F g ∧ g < w.heap.size) ∧ At w g off (encCo x)
section
variable {F : Nat → Prop} {w w' : World} {p : Option Addr} {o : Option COp}
theorem PtO.keep {γ : Prop} {D : Nat → Prop} (h : PtO F w p o) (x : Bel γ D w w') (hd : ∀ g, g < w.heap.size → F g → ¬ D g) : PtO F w' p o := by
  rcases h with h | ⟨g, off, y, h1, h2, h3, h4⟩
  · exact .inl h
  · exact .inr ⟨g, off, y, h1, h2, ⟨h3.1, Nat.lt_of_lt_of_le h3.2 x.size⟩, h4.keep x (hd g h3.2 h3.1)⟩
theorem PtO.ext {γ : Prop} (h : PtO F w p o) (x : Ext γ w w') : PtO F w' p o := h.keep x fun _ _ _ h => h
theorem PtO.some (h : PtO F w p o) : p.isNone = o.isNone := by
  rcases h with ⟨rfl, rfl⟩ | ⟨g, off, y, rfl, rfl, _⟩ <;> rfl
theorem PtO.get (h : PtO F w p o) (ho : o.isSome = true) : ∃ g off x, p = Option.some ⟨g, off, none⟩ ∧ o = Option.some x ∧ (F g ∧ g < w.heap.size) ∧ At w g off (encCo x) := by
  rcases h with ⟨_, rfl⟩ | h
  · cases ho
  · exact h
theorem Sl.ptO {a : Option Addr} {c : Nat} {X : List COp} (h : Sl encCo 8 F w a c X) (κ : OKey) (b : Bool) : PtO F w (px a (lastK X κ b)) (opK X κ b) := by
  unfold opK
  cases hl : lastK X κ b with
  | none => exact .inl ⟨rfl, rfl⟩
  | some i =>
    have hi := (lastN_lt hl).1
    obtain ⟨g, off, rfl, h2, h3, _⟩ := h.el i (X.getD i coz) (getE coz hi)
    exact .inr ⟨g, off + i * 8, _, elp_some g off (i * 8), rfl, h2, h3⟩
variable {P : Program} {fr : Fr} {d : Option Nat} {t : TypeId} {ps : String} {af : Array Edge} {gd : Option (Nat × Bool)} {x y : Operand} {T U : TypeId}
theorem o_pneP {tp : TypeId} (hT : P.underlying T = Option.some (.pointer tp)) (h : PtO F w' p o) (hx : ev fr x = .pointer p) (hy : ev fr y = .pointer none) : xop P fr w ⟨d, .binOp .neq T x y U, t, ps, af, gd⟩ = .ok (.value (.bool o.isSome)) w := by
  rw [o_pne hT hx hy, h.some]; cases o <;> rfl
theorem o_peqP {tp : TypeId} (hT : P.underlying T = Option.some (.pointer tp)) (h : PtO F w' p o) (hx : ev fr x = .pointer p) (hy : ev fr y = .pointer none) : xop P fr w ⟨d, .binOp .eql T x y U, t, ps, af, gd⟩ = .ok (.value (.bool o.isNone)) w := by
  rw [o_peq hT hx hy, h.some]
theorem o_nilcP (h : PtO F w' p o) (ho : o.isSome = true) (hx : ev fr x = .pointer p) : xop P fr w ⟨d, .nilCheck x, t, ps, af, gd⟩ = .ok (.value (.pointer p)) w := by
  obtain ⟨g, off, z, rfl, _⟩ := h.get ho
  exact o_nilc hx
theorem o_faP {fs : Array Field} {f n : Nat} {Fd : Field} (hP : P.underlying T = Option.some (.struct fs)) (hf : fs[f]? = Option.some Fd) (hs : ∀ w, (sizeOf Fd.type).run P w = .ok (n + 1) w) (h : PtO F w' p o) (ho : o.isSome = true) (hx : ev fr x = .pointer p) :
    xop P fr w ⟨d, .fieldAddr T x f, t, ps, af, gd⟩ = .ok (.value (.pointer (elp p Fd.offset))) w := by
  obtain ⟨g, off, z, rfl, _⟩ := h.get ho
  rw [elp_some]
  exact o_fa hP hf hs hx
theorem o_ldP (ha : ∀ w, (isAgg T).run P w = .ok false w) (h : PtO F w p o) (ho : o.isSome = true) (hx : ev fr x = .pointer (elp p 4)) : xop P fr w ⟨d, .load T x, t, ps, af, gd⟩ = .ok (.value (.int .i64 (o.getD coz).u)) w := by
  obtain ⟨g, off, z, rfl, rfl, _, h4⟩ := h.get ho
  rw [elp_some] at hx
  exact o_load1 ha hx (h4.get 4 rfl)
end
theorem nnO {α : Type} {o : Option α} (h : (o.isNone == false) = true) : o.isSome = true := by cases o <;> simp_all
theorem ssR {α : Type} {a : Bool} {o : Option α} (h : ((a && o.isSome) == true) = true) : o.isSome = true := by cases a <;> simp_all
theorem ssL {α : Type} {a : Bool} {o : Option α} (h : ((o.isSome && a) == true) = true) : o.isSome = true := by cases a <;> simp_all
theorem noO {α : Type} {o : Option α} (h : o.isSome = false) : o = none := by cases o <;> simp_all
section
variable {r1 a1 r2 a2 om ob oa : Option COp}
def failO (r1 a1 r2 a2 om : Option COp) : Bool := ((r1.isSome || a1.isSome) && r2.isSome) && (om.isNone || (om.getD coz).u != (r2.getD coz).u) || ((((r1.isSome || a1.isSome) && r2.isNone) && a2.isSome) && om.isSome)
def sameO (ob oa : Option COp) : Bool := (ob.isSome && oa.isSome) && (ob.getD coz).u == (oa.getD coz).u
def offO (o : Option COp) : List COp := o.toList.map fun o => { o with add := false }
def onO (o : Option COp) : List COp := o.toList.map fun o => { o with add := true }
theorem takeT_len (ob oa : Option COp) (k : Nat) : (takeT (offO ob) (onO oa) k).length ≤ 2 := by
  match k with
  | 0 => exact Nat.zero_le _
  | 1 => show (offO ob).length ≤ 2; cases ob <;> simp [offO]
  | k + 2 => show (offO ob ++ onO oa).length ≤ 2; cases ob <;> cases oa <;> simp [offO, onO]
theorem thenO_fail (hm : om = if (r1.isSome || a1.isSome) = true then a1 else r2) (h : failO r1 a1 r2 a2 om = true) : thenO r1 a1 r2 a2 = ([], false) := by
  subst hm; exact if_pos h
theorem thenO_same (hb : ob = if (r1.isSome || a1.isSome) = true then r1 else r2) (hm : om = if (r1.isSome || a1.isSome) = true then a1 else r2) (ha : oa = if (r2.isSome || a2.isSome) = true then a2 else om) (h : failO r1 a1 r2 a2 om = false) (hs : sameO ob oa = true) : thenO r1 a1 r2 a2 = ([], true) := by
  subst ha hm hb
  exact (if_neg (by intro e; exact Bool.noConfusion (h.symm.trans e))).trans (if_pos hs)
theorem thenO_two (hb : ob = if (r1.isSome || a1.isSome) = true then r1 else r2) (hm : om = if (r1.isSome || a1.isSome) = true then a1 else r2) (ha : oa = if (r2.isSome || a2.isSome) = true then a2 else om) (h : failO r1 a1 r2 a2 om = false) (hs : sameO ob oa = false) : thenO r1 a1 r2 a2 = (offO ob ++ onO oa, true) := by
  subst ha hm hb
  exact (if_neg (by intro e; exact Bool.noConfusion (h.symm.trans e))).trans (if_neg (by intro e; exact Bool.noConfusion (hs.symm.trans e)))
end
end Go.Lx
