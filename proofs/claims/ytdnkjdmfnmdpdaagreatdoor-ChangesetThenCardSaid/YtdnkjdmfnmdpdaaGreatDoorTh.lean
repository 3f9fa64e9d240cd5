/- Several texts in one file. -/
import Derived.Test.YtdnkjdmfnmdpdaaGreatDoorKo
import Derived.Test.YtdnkjdmfnmdpdaaGreatDoorSv
import Derived.Lib.ItoaNum
import Derived.Test.YtdnkjdmfnmdpdaaGreatDoorCall
import Derived.Test.YtdnkjdmfnmdpdaaGreatDoorPure11f
import Derived.Test.YtdnkjdmfnmdpdaaGreatDoorDraw
set_option linter.unusedSimpArgs false
set_option linter.unusedVariables false
set_option linter.unnecessarySimpa false
/- Sets of ops one after the other: what a key had and has. Nothing of a program stands here. -/
namespace Go.Lx
open Go
def lastN (l : List COp) (κ : OKey) (b : Bool) : Nat → Option Nat
  | 0 => none
  | n + 1 => if (l.getD n coz).key = κ ∧ (l.getD n coz).add = b then some n else lastN l κ b n
def lastK (l : List COp) (κ : OKey) (b : Bool) : Option Nat := lastN l κ b l.length
def px (a : Option Addr) (i : Option Nat) : Option Addr := i.bind fun i => elp a (i * 8)
theorem lastN_lt {l : List COp} {κ : OKey} {b : Bool} {i : Nat} : ∀ {n : Nat}, lastN l κ b n = some i → i < n ∧ (l.getD i coz).key = κ ∧ (l.getD i coz).add = b
  | 0, h => by cases h
  | n + 1, h => by
    unfold lastN at h
    split at h
    · rename_i hc
      obtain rfl : n = i := by simpa using h
      exact ⟨Nat.lt_succ_self _, hc⟩
    · obtain ⟨h1, h2⟩ := lastN_lt h
      exact ⟨Nat.lt_succ_of_lt h1, h2⟩
theorem lastN_no {l : List COp} {κ : OKey} {b : Bool} : ∀ {n : Nat}, lastN l κ b n = none → ∀ i, i < n → ¬ ((l.getD i coz).key = κ ∧ (l.getD i coz).add = b)
  | 0, _, i, hi => absurd hi (Nat.not_lt_zero _)
  | n + 1, h, i, hi => by
    unfold lastN at h
    split at h
    · cases h
    · rename_i hc
      rcases Nat.lt_succ_iff_lt_or_eq.1 hi with h1 | rfl
      · exact lastN_no h i h1
      · exact hc
def opK (l : List COp) (κ : OKey) (b : Bool) : Option COp := (lastK l κ b).map fun i => l.getD i coz
def flipO (o : COp) : COp := { o with add := !o.add }
def invO (l : List COp) : List COp := sortO (l.map flipO)
theorem Vo.flip {o : COp} (h : Vo o) : Vo (flipO o) := ⟨h.ok, h.chk⟩
theorem inv_get {X : List COp} {k : Nat} (h : k < X.length) : ((X.take k).map flipO ++ X.drop k)[k]? = some (X.getD k coz) := by
  rw [List.getElem?_append_right (by simp; omega)]
  simp [List.getD, h, Nat.min_eq_left (Nat.le_of_lt h)]
theorem inv_set {X : List COp} {k : Nat} (h : k < X.length) : ((X.take k).map flipO ++ X.drop k).set k (flipO (X.getD k coz)) = (X.take (k + 1)).map flipO ++ X.drop (k + 1) := by
  have e1 : ((X.take k).map flipO).length = k := by rw [List.length_map, List.length_take]; omega
  rw [List.set_append_right _ _ (by omega), e1, Nat.sub_self, List.drop_eq_getElem_cons h, List.set_cons_zero, takeD (z := coz) h, List.map_append, List.append_assoc]
  rfl
def thenO (r1 a1 r2 a2 : Option COp) : List COp × Bool :=
  let known := r1.isSome || a1.isSome
  let before := if known then r1 else r2
  let middle := if known then a1 else r2
  if (known && r2.isSome && (middle.isNone || (middle.getD coz).u != (r2.getD coz).u)) || (known && r2.isNone && a2.isSome && middle.isSome) then ([], false) else
  let after := if r2.isSome || a2.isSome then a2 else middle
  if before.isSome && after.isSome && (before.getD coz).u == (after.getD coz).u then ([], true) else
  ((before.toList.map fun o => { o with add := false }) ++ (after.toList.map fun o => { o with add := true }), true)
def lineO (o : COp) (n : Int → Str) (t : Perm → Str) : Str :=
  (if o.add then [43, 32] else [45, 32]) ++ ((if o.k = 1 then [117, 115, 101, 114, 32] ++ n o.a ++ [32, 114, 111, 108, 101, 32] ++ n o.b ++ [32, 117, 110, 116, 105, 108, 32] ++ n o.u
   else if o.k = 2 then [114, 111, 108, 101, 32] ++ n o.a ++ [32] ++ t o.p else [114, 111, 108, 101, 32] ++ n o.a ++ [32, 111, 118, 101, 114, 32] ++ n o.b) ++ [10])
def dig (n : Int) : Str := Lib.decDigits n.toNat
theorem dig_len {n : Int} (h : n < 100) : (dig n).length ≤ 2 := by
  unfold dig
  rw [Lib.decDigits_length]
  by_cases h1 : n.toNat < 10
  · rw [Lib.nDigits_small h1]; omega
  · rw [Lib.nDigits_big h1, Lib.nDigits_small (by omega)]; omega
def txtO (X : List COp) (n : Int → Str) (t : Perm → Str) (k : Nat) : Str := (X.take k).flatMap fun o => lineO o n t
theorem txt_succ {X : List COp} {n : Int → Str} {t : Perm → Str} {k : Nat} (h : k < X.length) : txtO X n t (k + 1) = txtO X n t k ++ lineO (X.getD k coz) n t := by
  unfold txtO
  rw [takeD (z := coz) h, List.flatMap_append]; simp
theorem line_len {o : COp} {n : Int → Str} {t : Perm → Str} (h1 : (n o.a).length ≤ 2) (h2 : (n o.b).length ≤ 2) (h3 : (n o.u).length ≤ 2) (h4 : (t o.p).length ≤ 2000003) : (lineO o n t).length ≤ 3000000 := by
  have hs : (if o.add then ([43, 32] : Str) else [45, 32]).length = 2 := by split <;> rfl
  unfold lineO
  rw [List.length_append, hs]
  by_cases k1 : o.k = 1
  · rw [if_pos k1]; simp only [List.length_append, List.length_cons, List.length_nil]; omega
  · rw [if_neg k1]
    by_cases k2 : o.k = 2
    · rw [if_pos k2]; simp only [List.length_append, List.length_cons, List.length_nil]; omega
    · rw [if_neg k2]; simp only [List.length_append, List.length_cons, List.length_nil]; omega
def takeT (l m : List COp) : Nat → List COp
  | 0 => []
  | 1 => l
  | _ => l ++ m
theorem o_idx2 {P : Program} {fr : Fr} {w : World} {d : Option Nat} {t : TypeId} {ps : String} {af : Array Edge} {g : Option (Nat × Bool)} {x y : Operand} {T : TypeId} {p q : Value} {k : Nat} {e : TypeId} (hT : P.underlying T = some (.array 2 e)) (ha : ∀ w, (isAgg e).run P w = .ok false w) (hs : ∀ w, (sizeOf e).run P w = .ok 1 w) (hx : ev fr x = .agg #[p, q]) (hy : ev fr y = .int .i64 (k : Int)) (hk : k < 2) :
    xop P fr w ⟨d, .index T x y, t, ps, af, g⟩ = .ok (.value (if k = 0 then p else q)) w := by
  match k, hk with
  | 0, _ => simp [xop, execOp, hx, hy, Instr.index, run_underlying hT, asIntOf, part, ha, hs]
  | 1, _ => simp [xop, execOp, hx, hy, Instr.index, run_underlying hT, asIntOf, part, ha, hs]
theorem o_idx20 {P : Program} {fr : Fr} {w : World} {d : Option Nat} {t : TypeId} {ps : String} {af : Array Edge} {g : Option (Nat × Bool)} {x y : Operand} {T : TypeId} {p q : Value} {e : TypeId} (hT : P.underlying T = some (.array 2 e)) (ha : ∀ w, (isAgg e).run P w = .ok false w) (hs : ∀ w, (sizeOf e).run P w = .ok 1 w) (hx : ev fr x = .agg #[p, q]) (hy : ev fr y = .int .i64 ((0 : Nat) : Int)) : xop P fr w ⟨d, .index T x y, t, ps, af, g⟩ = .ok (.value p) w := o_idx2 hT ha hs hx hy (by decide)
theorem o_idx21 {P : Program} {fr : Fr} {w : World} {d : Option Nat} {t : TypeId} {ps : String} {af : Array Edge} {g : Option (Nat × Bool)} {x y : Operand} {T : TypeId} {p q : Value} {e : TypeId} (hT : P.underlying T = some (.array 2 e)) (ha : ∀ w, (isAgg e).run P w = .ok false w) (hs : ∀ w, (sizeOf e).run P w = .ok 1 w) (hx : ev fr x = .agg #[p, q]) (hy : ev fr y = .int .i64 ((1 : Nat) : Int)) : xop P fr w ⟨d, .index T x y, t, ps, af, g⟩ = .ok (.value q) w := o_idx2 hT ha hs hx hy (by decide)
end Go.Lx
/- Two sets one after the other, key by key: plain laws. Nothing of a program stands here. -/
namespace Go.Lx
open Go
theorem comp_insK {l l' : List OKey} (hv : ∀ x ∈ l, Wk x) (hp : l'.Perm l) (hs : l'.Pairwise (fun x y => cmpK x y ≤ 0)) : compL l' = insAll cmpK l := by
  have hv' : ∀ x ∈ l', Wk x := fun x hx => hv x (hp.mem_iff.1 hx)
  have h1 := wkL_map l hv
  have h2 := wkL_map l' hv'
  generalize wkL l hv = a at h1
  generalize wkL l' hv' = b at h2
  subst h1 h2
  rw [List.pairwise_map] at hs
  have hi : ∀ a b : WK, a.1 = b.1 → a = b := fun a b h => Subtype.ext h
  have hm : ∀ (l : List WK) (x : WK), x ∈ l ↔ x.1 ∈ l.map (fun y => y.1) := by
    intro l x
    rw [List.mem_map]
    exact ⟨fun h => ⟨x, h, rfl⟩, fun ⟨y, h, e⟩ => hi y x e ▸ h⟩
  have hp' : ∀ x, x ∈ b ↔ x ∈ a := fun x => by rw [hm b, hm a]; exact hp.mem_iff
  have := comp_ins cmpK_is hp' hs
  have e1 := compFold_map (m := fun x : WK => x.1) hi b []
  have e2 := insFold_map (f := cmpK) (m := fun x : WK => x.1) hi a []
  exact e1.trans ((congrArg (List.map fun x : WK => x.1) this).trans e2.symm)
def keysU (X Y : List COp) : List OKey := insAll cmpK (keysO X ++ keysO Y)
def thK (X Y : List COp) (κ : OKey) : List COp × Bool := thenO (opK X κ false) (opK X κ true) (opK Y κ false) (opK Y κ true)
def thF (X Y : List COp) (K : List OKey) : List COp := K.flatMap fun κ => (thK X Y κ).1
def thenS (X Y : List COp) : List COp × Int := if (keysU X Y).all (fun κ => (thK X Y κ).2) then ofO (thF X Y (keysU X Y)) else ([], 7)
theorem keysU_of {X Y : List COp} (hX : VS X) (hY : VS Y) {m : List OKey} (hp : m.Perm (keysO X ++ keysO Y)) (hs : m.Pairwise fun x y => cmpK x y ≤ 0) : compL m = keysU X Y :=
  comp_insK (fun x hx => (List.mem_append.1 hx).elim (keys_wk hX x) (keys_wk hY x)) hp hs
theorem keysU_len {X Y : List COp} {m : List OKey} (hp : m.Perm (keysO X ++ keysO Y)) (h : compL m = keysU X Y) : (keysU X Y).length ≤ X.length + Y.length := by
  rw [← h]
  have h1 := compL_len m
  have h2 := hp.length_eq
  have h3 := keysO_len X
  have h4 := keysO_len Y
  rw [List.length_append] at h2
  omega
theorem opK_mem {X : List COp} {κ : OKey} {b : Bool} {o : COp} (h : opK X κ b = some o) : o ∈ X := by
  unfold opK at h
  obtain ⟨i, hi, rfl⟩ := Option.map_eq_some_iff.1 h
  exact gm (lastN_lt hi).1
theorem tl_le {α : Type} (o : Option α) : o.toList.length ≤ 1 := by cases o <;> simp
theorem thenO_eq (r1 a1 r2 a2 : Option COp) : ∃ (b f : Option COp) (c1 c2 : Bool), thenO r1 a1 r2 a2 = (if c1 then ([], false) else if c2 then ([], true) else ((b.toList.map fun o => { o with add := false }) ++ (f.toList.map fun o => { o with add := true }), true)) ∧ (b = r1 ∨ b = r2) ∧ (f = a2 ∨ f = a1 ∨ f = r2) := by
  refine ⟨if r1.isSome || a1.isSome then r1 else r2, if r2.isSome || a2.isSome then a2 else if r1.isSome || a1.isSome then a1 else r2, _, _, rfl, ?_, ?_⟩
  · split
    · exact .inl rfl
    · exact .inr rfl
  · split
    · exact .inl rfl
    · split
      · exact .inr (.inl rfl)
      · exact .inr (.inr rfl)
theorem thenO_mem {r1 a1 r2 a2 : Option COp} {x : COp} (h : x ∈ (thenO r1 a1 r2 a2).1) : ∃ o b, (r1 = some o ∨ a1 = some o ∨ r2 = some o ∨ a2 = some o) ∧ x = { o with add := b } := by
  obtain ⟨b, f, c1, c2, e, hb, hf⟩ := thenO_eq r1 a1 r2 a2
  rw [e] at h
  cases c1 with
  | true => cases h
  | false =>
    cases c2 with
    | true => cases h
    | false =>
      rcases List.mem_append.1 h with h | h
      · obtain ⟨o, ho, rfl⟩ := List.mem_map.1 h
        rw [Option.mem_toList] at ho
        refine ⟨o, _, ?_, rfl⟩
        rcases hb with rfl | rfl
        · exact .inl ho
        · exact .inr (.inr (.inl ho))
      · obtain ⟨o, ho, rfl⟩ := List.mem_map.1 h
        rw [Option.mem_toList] at ho
        refine ⟨o, _, ?_, rfl⟩
        rcases hf with rfl | rfl | rfl
        · exact .inr (.inr (.inr ho))
        · exact .inr (.inl ho)
        · exact .inr (.inr (.inl ho))
theorem thenO_len (r1 a1 r2 a2 : Option COp) : (thenO r1 a1 r2 a2).1.length ≤ 2 := by
  obtain ⟨b, f, c1, c2, e, hb, hf⟩ := thenO_eq r1 a1 r2 a2
  rw [e]
  cases c1 with
  | true => exact Nat.zero_le _
  | false =>
    cases c2 with
    | true => exact Nat.zero_le _
    | false =>
      show (_ ++ _ : List COp).length ≤ 2
      rw [List.length_append, List.length_map, List.length_map]
      exact Nat.add_le_add (tl_le _) (tl_le _)
theorem thF_ok {X Y : List COp} (hX : ∀ x ∈ X, x.p.ok) (hY : ∀ x ∈ Y, x.p.ok) (K : List OKey) : ∀ x ∈ thF X Y K, x.p.ok := fun x hx => by
  obtain ⟨κ, _, h⟩ := List.mem_flatMap.1 hx
  obtain ⟨o, b, ho, rfl⟩ := thenO_mem h
  rcases ho with h | h | h | h
  · exact hX o (opK_mem h)
  · exact hX o (opK_mem h)
  · exact hY o (opK_mem h)
  · exact hY o (opK_mem h)
theorem thF_len (X Y : List COp) : ∀ K : List OKey, (thF X Y K).length ≤ 2 * K.length
  | [] => Nat.le_refl _
  | κ :: r => by
    have h1 := thF_len X Y r
    have h2 : (thK X Y κ).1.length ≤ 2 := thenO_len _ _ _ _
    have e : thF X Y (κ :: r) = (thK X Y κ).1 ++ thF X Y r := rfl
    rw [e, List.length_append, List.length_cons]; omega
theorem thF_succ {X Y : List COp} {K : List OKey} {k : Nat} (h : k < K.length) : thF X Y (K.take (k + 1)) = thF X Y (K.take k) ++ (thK X Y (K.getD k okz)).1 := by
  have e : K.getD k okz = K[k] := by simp [List.getD, h]
  unfold thF
  rw [List.take_succ_eq_append_getElem h, List.flatMap_append, e]; simp
theorem all_succ {X Y : List COp} {K : List OKey} {k : Nat} (h : k < K.length) (h1 : (K.take k).all (fun κ => (thK X Y κ).2) = true) (h2 : (thK X Y (K.getD k okz)).2 = true) : (K.take (k + 1)).all (fun κ => (thK X Y κ).2) = true := by
  have e : K.getD k okz = K[k] := by simp [List.getD, h]
  rw [List.take_succ_eq_append_getElem h, List.all_append, h1, ← e]
  show (true && ((thK X Y (K.getD k okz)).2 && true)) = true
  rw [h2]; rfl
theorem all_no {X Y : List COp} {K : List OKey} {k : Nat} (h : k < K.length) (h2 : (thK X Y (K.getD k okz)).2 = false) : K.all (fun κ => (thK X Y κ).2) = false :=
  List.all_eq_false.2 ⟨K.getD k okz, gm h, by rw [h2]; simp⟩
/- the chapter's example -/
def fA : List COp := [awO false 1 5, awO true 1 9]
def fD : List COp := [awO false 1 9]
def fI : List COp := [awO false 1 9, awO true 1 5]
def fX : List COp := [awO false 1 5]
def fT : Str := [45, 32, 117, 115, 101, 114, 32, 49, 32, 114, 111, 108, 101, 32, 50, 32, 117, 110, 116, 105, 108, 32, 53, 10, 43, 32, 117, 115, 101, 114, 32, 49, 32, 114, 111, 108, 101, 32, 50, 32, 117, 110, 116, 105, 108, 32, 57, 10]
def fT1 : Str := [45, 32, 117, 115, 101, 114, 32, 49, 32, 114, 111, 108, 101, 32, 50, 32, 117, 110, 116, 105, 108, 32, 53, 10]
theorem fA_vs : VS fA := by
  refine ⟨?_, by decide +kernel, by decide +kernel⟩
  intro x hx
  simp only [fA, List.mem_cons, List.not_mem_nil, or_false] at hx
  rcases hx with rfl | rfl <;> exact ⟨⟨by decide, by decide⟩, by decide +kernel⟩
theorem fI_vs : VS fI := by
  refine ⟨?_, by decide +kernel, by decide +kernel⟩
  intro x hx
  simp only [fI, List.mem_cons, List.not_mem_nil, or_false] at hx
  rcases hx with rfl | rfl <;> exact ⟨⟨by decide, by decide⟩, by decide +kernel⟩
theorem fD_vs : VS fD := by
  refine ⟨?_, by decide +kernel, by decide +kernel⟩
  intro x hx
  simp only [fD, List.mem_cons, List.not_mem_nil, or_false] at hx
  rcases hx with rfl; exact ⟨⟨by decide, by decide⟩, by decide +kernel⟩
theorem f_of : ofO [awO true 1 9, awO false 1 5] = (fA, 0) := by decide +kernel
theorem f_txt : txtO fA dig textS fA.length = fT := by decide +kernel
theorem f_txt1 : txtO fX dig textS fX.length = fT1 := by decide +kernel
theorem f_keys : (keysO fA).length = 1 := by decide +kernel
theorem f_then : thenS fA fD = (fX, 0) := by decide +kernel
theorem f_inv : invO fA = fI := by decide +kernel
theorem f_cf : CF (fA.map flipO) := by decide +kernel
theorem f_thenI : thenS fA fI = ([], 0) := by decide +kernel
end Go.Lx
/- The ways of a statement come together again: what comes behind it is walked once. Nothing of a program stands here. -/
namespace Go.Lx
open Go
theorem W_join {rd : Option Nat} {P : Program} {n : Nat} {c d : Code} {K : Fr → World → Prop} {E : Nat → Fr → World → Prop} {Rt : Fr → World → Prop} {fr : Fr} {w : World} {α : Type}
    (R : List (Nat × Nat)) (S : α → List (Nat × Value)) (I : α → World → Prop)
    (h1 : W rd P n c (fun fr' w' => ∃ y, slotsOk fr' (S y) ∧ Off R fr fr' ∧ I y w') E Rt fr w)
    (h2 : ∀ x base w, I x w → W rd P n d K E Rt (setL (mix R fr base) (S x)) w) : W rd P n (.seq c d) K E Rt fr w := by
  refine W_seq (h1.mono ?_ (fun _ _ _ h => h) (fun _ _ h => h))
  rintro fr' w' ⟨x, h3, h4, h5⟩
  have := h2 x fr' w' h5
  rwa [mix_same h4, setL_same h3] at this
section
variable {P : Program} {fr : Fr} {w : World} {d : Option Nat} {t : TypeId} {ps : String} {af : Array Edge} {g : Option (Nat × Bool)} {x y : Operand} {T U : TypeId}
end
end Go.Lx
/- Two sets of ops one after the other, as the reference has it: the same. Nothing of a program stands here. -/
namespace Go.Lx
open Go
def findO (l : List COp) (κ : OKey) (b : Bool) : Option COp := l.find? fun o => o.key == κ && o.add == b
def badR (cm cp dm dp : Option COp) : Bool := (((cm.isSome || cp.isSome) && dm.isSome) && (!cp.isSome || (cp.getD coz).u != (dm.getD coz).u)) || ((((cm.isSome || cp.isSome) && dp.isSome) && !dm.isSome) && cp.isSome)
def befR (cm cp dm : Option COp) : Option COp := if (cm.isSome || cp.isSome) then cm else dm
def aftR (cp dm dp : Option COp) : Option COp := if (dm.isSome || dp.isSome) then dp else cp
def sameR (b a : Option COp) : Bool := (b.isSome && a.isSome) && (b.getD coz).u == (a.getD coz).u
def addR' (out : List COp) (o : Option COp) : List COp := if (o.isSome && !decide (o.getD coz ∈ out)) = true then out ++ [o.getD coz] else out
def stepT (b a : Option COp) (out : List COp) : List COp := if sameR b a = true then out else addR' (addR' out b) a
def bK (c d : List COp) (κ : OKey) : Option COp := befR (findO c κ false) (findO c κ true) (findO d κ false)
def aK (c d : List COp) (κ : OKey) : Option COp := aftR (findO c κ true) (findO d κ false) (findO d κ true)
def badT (c d : List COp) (κ : OKey) : Bool := badR (findO c κ false) (findO c κ true) (findO d κ false) (findO d κ true)
def foldT (c d : List COp) (l : List COp) : List COp := l.foldl (fun out o => stepT (bK c d o.key) (aK c d o.key) out) []
def thenR (c d : List COp) : List COp × Int := if (c ++ d).all (fun o => !badT c d o.key) then (sortO (foldT c d (c ++ d)), 0) else ([], 7)
theorem foldT_succ {c d l : List COp} {k : Nat} (h : k < l.length) : foldT c d (l.take (k + 1)) = stepT (bK c d (l.getD k coz).key) (aK c d (l.getD k coz).key) (foldT c d (l.take k)) := by
  have e : l.getD k coz = l[k] := by simp [List.getD, h]
  unfold foldT
  rw [List.take_succ_eq_append_getElem h, List.foldl_append, e]; rfl
theorem addR_mem {out : List COp} {o : Option COp} {x : COp} : x ∈ addR' out o ↔ x ∈ out ∨ x ∈ o.toList := by
  unfold addR'
  cases o with
  | none => simp
  | some y =>
    by_cases h : y ∈ out
    · simp only [Option.isSome_some, Option.getD_some, h, decide_true, Bool.not_true, Bool.and_false, Bool.false_eq_true, if_false, Option.toList_some, List.mem_singleton]
      exact ⟨.inl, fun q => q.elim id (fun e => e ▸ h)⟩
    · simp [h]
theorem addR_nd {out : List COp} {o : Option COp} (h : out.Nodup) : (addR' out o).Nodup := by
  unfold addR'
  cases o with
  | none => simpa using h
  | some y =>
    by_cases hy : y ∈ out
    · simpa [hy] using h
    · simp only [Option.isSome_some, Option.getD_some, hy, decide_false, Bool.not_false, Bool.and_true, if_true]
      rw [List.nodup_append]
      refine ⟨h, by simp, fun a ha b hb e => ?_⟩
      rw [List.mem_singleton] at hb
      subst hb e
      exact hy ha
def pairR (b a : Option COp) : List COp := if sameR b a = true then [] else b.toList ++ a.toList
theorem stepT_mem {b a : Option COp} {out : List COp} {x : COp} : x ∈ stepT b a out ↔ x ∈ out ∨ x ∈ pairR b a := by
  unfold stepT pairR
  split
  · simp
  · rw [addR_mem, addR_mem, List.mem_append, or_assoc]
theorem stepT_nd {b a : Option COp} {out : List COp} (h : out.Nodup) : (stepT b a out).Nodup := by
  unfold stepT
  split
  · exact h
  · exact addR_nd (addR_nd h)
theorem foldT_gen (c d : List COp) : ∀ (l out : List COp), out.Nodup → (l.foldl (fun out o => stepT (bK c d o.key) (aK c d o.key) out) out).Nodup ∧ ∀ x, x ∈ l.foldl (fun out o => stepT (bK c d o.key) (aK c d o.key) out) out ↔ x ∈ out ∨ ∃ o ∈ l, x ∈ pairR (bK c d o.key) (aK c d o.key)
  | [], out, h => ⟨h, fun x => by simp⟩
  | o :: r, out, h => by
    obtain ⟨h1, h2⟩ := foldT_gen c d r _ (stepT_nd (b := bK c d o.key) (a := aK c d o.key) h)
    refine ⟨h1, fun x => ?_⟩
    rw [List.foldl_cons, h2 x, stepT_mem, or_assoc]
    simp only [List.mem_cons, exists_eq_or_imp]
theorem foldT_nd (c d l : List COp) : (foldT c d l).Nodup := (foldT_gen c d l [] List.nodup_nil).1
theorem foldT_mem (c d l : List COp) (x : COp) : x ∈ foldT c d l ↔ ∃ o ∈ l, x ∈ pairR (bK c d o.key) (aK c d o.key) := by
  rw [foldT, (foldT_gen c d l [] List.nodup_nil).2 x]; simp
theorem thenO_R (cm cp dm dp : Option COp) : thenO cm cp dm dp = if badR cm cp dm dp = true then ([], false) else if sameR (befR cm cp dm) (aftR cp dm dp) = true then ([], true) else (((befR cm cp dm).toList.map fun o => { o with add := false }) ++ ((aftR cp dm dp).toList.map fun o => { o with add := true }), true) := by
  cases cm <;> cases cp <;> cases dm <;> cases dp <;> simp [thenO, badR, befR, aftR, sameR, bne]
theorem uniqO {l : List COp} (h : CF l) {x y : COp} (hx : x ∈ l) (hy : y ∈ l) (hk : x.key = y.key) (ha : x.add = y.add) : x = y := by
  obtain ⟨i, hi, rfl⟩ := List.mem_iff_getElem.1 hx
  obtain ⟨j, hj, rfl⟩ := List.mem_iff_getElem.1 hy
  rcases Nat.lt_trichotomy i j with q | q | q
  · exact absurd ha (confl_no (List.pairwise_iff_getElem.1 h i j hi hj q) hk).2.1
  · subst q; rfl
  · exact absurd ha.symm (confl_no (List.pairwise_iff_getElem.1 h j i hj hi q) hk.symm).2.1
theorem findO_mem {l : List COp} {κ : OKey} {b : Bool} {o : COp} (h : findO l κ b = some o) : o ∈ l ∧ o.key = κ ∧ o.add = b := by
  have h1 := List.find?_some h
  rw [Bool.and_eq_true] at h1
  exact ⟨List.mem_of_find?_eq_some h, eq_of_beq h1.1, eq_of_beq h1.2⟩
theorem findO_no {l : List COp} {κ : OKey} {b : Bool} (h : findO l κ b = none) : ∀ o ∈ l, ¬ (o.key = κ ∧ o.add = b) := fun o ho hh => by
  have := List.find?_eq_none.1 h o ho
  exact this (by rw [Bool.and_eq_true]; exact ⟨beq_iff_eq.2 hh.1, beq_iff_eq.2 hh.2⟩)
theorem findO_op {l : List COp} (h : CF l) (κ : OKey) (b : Bool) : findO l κ b = opK l κ b := by
  unfold opK lastK
  cases hf : findO l κ b with
  | none =>
    cases hl : lastN l κ b l.length with
    | none => rfl
    | some i =>
      obtain ⟨h1, h2⟩ := lastN_lt hl
      exact absurd h2 (findO_no hf _ (gm h1))
  | some o =>
    obtain ⟨h1, h2, h3⟩ := findO_mem hf
    cases hl : lastN l κ b l.length with
    | none =>
      obtain ⟨i, hi, rfl⟩ := List.mem_iff_getElem.1 h1
      have := lastN_no hl i hi
      rw [show l.getD i coz = l[i] by simp [List.getD, hi]] at this
      exact absurd ⟨h2, h3⟩ this
    | some i =>
      obtain ⟨g1, g2, g3⟩ := lastN_lt hl
      exact congrArg some (uniqO h h1 (gm g1) (h2.trans g2.symm) (h3.trans g3.symm))
theorem thK_R {X Y : List COp} (hX : CF X) (hY : CF Y) (κ : OKey) : thK X Y κ = if badT X Y κ = true then ([], false) else (pairR (bK X Y κ) (aK X Y κ), true) := by
  unfold thK
  rw [← findO_op hX, ← findO_op hX, ← findO_op hY, ← findO_op hY, thenO_R]
  show (if badT X Y κ = true then _ else if sameR (bK X Y κ) (aK X Y κ) = true then _ else _) = _
  split
  · rfl
  unfold pairR
  split
  · rfl
  have e1 : ∀ b : Option COp, (∀ o, b = some o → o.add = false) → b.toList.map (fun o => { o with add := false }) = b.toList := fun b hb => by
    cases b with
    | none => rfl
    | some o => have := hb o rfl; obtain ⟨a⟩ := o; simp at this; subst this; rfl
  have e2 : ∀ b : Option COp, (∀ o, b = some o → o.add = true) → b.toList.map (fun o => { o with add := true }) = b.toList := fun b hb => by
    cases b with
    | none => rfl
    | some o => have := hb o rfl; obtain ⟨a⟩ := o; simp at this; subst this; rfl
  have hb : ∀ o, bK X Y κ = some o → o.add = false := fun o ho => by
    unfold bK befR at ho
    split at ho
    · exact (findO_mem ho).2.2
    · exact (findO_mem ho).2.2
  have ha : ∀ o, aK X Y κ = some o → o.add = true := fun o ho => by
    unfold aK aftR at ho
    split at ho
    · exact (findO_mem ho).2.2
    · exact (findO_mem ho).2.2
  exact congrArg (·, true) (congr (congrArg HAppend.hAppend (e1 _ hb)) (e2 _ ha))
theorem bK_mem {X Y : List COp} {κ : OKey} {o : COp} (h : bK X Y κ = some o) : (o ∈ X ∨ o ∈ Y) ∧ o.key = κ ∧ o.add = false := by
  unfold bK befR at h
  split at h
  · exact ⟨.inl (findO_mem h).1, (findO_mem h).2⟩
  · exact ⟨.inr (findO_mem h).1, (findO_mem h).2⟩
theorem aK_mem {X Y : List COp} {κ : OKey} {o : COp} (h : aK X Y κ = some o) : (o ∈ X ∨ o ∈ Y) ∧ o.key = κ ∧ o.add = true := by
  unfold aK aftR at h
  split at h
  · exact ⟨.inr (findO_mem h).1, (findO_mem h).2⟩
  · exact ⟨.inl (findO_mem h).1, (findO_mem h).2⟩
theorem pairR_mem {X Y : List COp} {κ : OKey} {x : COp} (h : x ∈ pairR (bK X Y κ) (aK X Y κ)) : (x ∈ X ∨ x ∈ Y) ∧ x.key = κ := by
  unfold pairR at h
  split at h
  · cases h
  rcases List.mem_append.1 h with h | h
  · rw [Option.mem_toList] at h
    exact ⟨(bK_mem h).1, (bK_mem h).2.1⟩
  · rw [Option.mem_toList] at h
    exact ⟨(aK_mem h).1, (aK_mem h).2.1⟩
theorem foldT_ok {X Y : List COp} (hX : ∀ x ∈ X, x.p.ok) (hY : ∀ x ∈ Y, x.p.ok) (l : List COp) : ∀ x ∈ foldT X Y l, x.p.ok := fun x hx => by
  obtain ⟨o, _, h⟩ := (foldT_mem X Y l x).1 hx
  exact (pairR_mem h).1.elim (hX x) (hY x)
theorem stepT_len (b a : Option COp) (out : List COp) : (stepT b a out).length ≤ out.length + 2 := by
  have h : ∀ (o : Option COp) (l : List COp), (addR' l o).length ≤ l.length + 1 := fun o l => by
    unfold addR'; split
    · simp
    · omega
  unfold stepT
  split
  · omega
  · have h1 := h b out; have h2 := h a (addR' out b); omega
theorem foldT_len (c d : List COp) : ∀ (l out : List COp), (l.foldl (fun out o => stepT (bK c d o.key) (aK c d o.key) out) out).length ≤ out.length + 2 * l.length
  | [], out => by simp
  | o :: r, out => by
    have h1 := foldT_len c d r (stepT (bK c d o.key) (aK c d o.key) out)
    have h2 := stepT_len (bK c d o.key) (aK c d o.key) out
    rw [List.foldl_cons, List.length_cons]; omega
theorem foldT_le (c d l : List COp) : (foldT c d l).length ≤ 2 * l.length := by
  have := foldT_len c d l []
  simpa [foldT] using this
theorem keysU_wk {X Y : List COp} (hX : VS X) (hY : VS Y) : ∀ κ ∈ keysO X ++ keysO Y, Wk κ := fun κ h => (List.mem_append.1 h).elim (keys_wk hX κ) (keys_wk hY κ)
theorem keysU_asc {X Y : List COp} (hX : VS X) (hY : VS Y) : (keysU X Y).Pairwise (fun x y => cmpK x y < 0) ∧ ∀ κ, κ ∈ keysU X Y ↔ ∃ o ∈ X ++ Y, o.key = κ := by
  have hw := keysU_wk hX hY
  have hi : ∀ a b : WK, a.1 = b.1 → a = b := fun a b h => Subtype.ext h
  have e : (insAll (fun a b : WK => cmpK a.1 b.1) (wkL _ hw)).map (fun x => x.1) = keysU X Y := by
    have e2 := insFold_map (f := cmpK) (m := fun x : WK => x.1) hi (wkL _ hw) []
    rw [wkL_map] at e2
    exact e2.symm
  constructor
  · rw [← e, List.pairwise_map]; exact insAll_pw cmpK_is _
  · intro κ
    rw [← e, List.mem_map]
    constructor
    · rintro ⟨q, hq, rfl⟩
      have h1 := (wkL_mem q.2 _ hw).1 ((insAll_mem cmpK_is _ q).1 hq)
      rcases List.mem_append.1 h1 with h | h
      · obtain ⟨o, ho, e⟩ := ((keys_asc hX).2 _).1 h; exact ⟨o, by simp [ho], e⟩
      · obtain ⟨o, ho, e⟩ := ((keys_asc hY).2 _).1 h; exact ⟨o, by simp [ho], e⟩
    · rintro ⟨o, ho, rfl⟩
      have hk : o.key ∈ keysO X ++ keysO Y := by
        rcases List.mem_append.1 ho with h | h
        · exact List.mem_append.2 (.inl (((keys_asc hX).2 _).2 ⟨o, h, rfl⟩))
        · exact List.mem_append.2 (.inr (((keys_asc hY).2 _).2 ⟨o, h, rfl⟩))
      exact ⟨⟨o.key, hw _ hk⟩, (insAll_mem cmpK_is _ _).2 ((wkL_mem _ _ hw).2 hk), rfl⟩
theorem keysU_nd {X Y : List COp} (hX : VS X) (hY : VS Y) : (keysU X Y).Nodup := by
  have h := (keysU_asc hX hY).1
  refine h.imp_of_mem fun {a b} ha hb q e => ?_
  subst e
  have hw : Wk a := by
    obtain ⟨o, ho, rfl⟩ := ((keysU_asc hX hY).2 a).1 ha
    exact (List.mem_append.1 ho).elim (hX.wo o) (hY.wo o)
  have := (cmpK_is.eq ⟨a, hw⟩ ⟨a, hw⟩).2 rfl
  simp only at this
  omega
theorem pairR_cf {X Y : List COp} (hX : VS X) (hY : VS Y) (κ : OKey) : (pairR (bK X Y κ) (aK X Y κ)).Nodup ∧ CF (pairR (bK X Y κ) (aK X Y κ)) := by
  unfold pairR
  cases hb : bK X Y κ with
  | none => cases ha : aK X Y κ <;> exact ⟨by simp [sameR], by simp [sameR, CF]⟩
  | some b =>
    cases ha : aK X Y κ with
    | none => exact ⟨by simp [sameR], by simp [sameR, CF]⟩
    | some a =>
      obtain ⟨b1, b2, b3⟩ := bK_mem hb
      obtain ⟨a1, a2, a3⟩ := aK_mem ha
      have vb : Vo b := b1.elim (hX.v b) (hY.v b)
      have va : Vo a := a1.elim (hX.v a) (hY.v a)
      by_cases hu : b.u = a.u
      · rw [if_pos (by simp [sameR, hu])]; exact ⟨by simp, List.Pairwise.nil⟩
      · rw [if_neg (by simp [sameR, hu])]
        have hab : b ≠ a := fun e => hu (by rw [e])
        refine ⟨by simp [hab], ?_⟩
        have hk : b.k = 1 := by
          refine Classical.byContradiction fun hn => hu ?_
          have ek : b.k = a.k := congrArg OKey.k (b2.trans a2.symm)
          have h1 : b.u = 0 := Classical.byContradiction fun hq => by
            have := vb.chk; have hr := vb.rng; unfold checkO at this
            rw [if_neg (by omega), if_pos (.inr (.inl ⟨hn, hq⟩))] at this; omega
          have h2 : a.u = 0 := Classical.byContradiction fun hq => by
            have := va.chk; have hr := va.rng; unfold checkO at this
            rw [if_neg (by omega), if_pos (.inr (.inl ⟨by rw [← ek]; exact hn, hq⟩))] at this; omega
          rw [h1, h2]
        show List.Pairwise _ [b, a]
        rw [List.pairwise_cons]
        refine ⟨fun y hy => ?_, by simp⟩
        rw [List.mem_singleton] at hy
        subst hy
        unfold confl
        rw [decide_eq_true (b2.trans a2.symm), hk, b3, a3]
        simp [hu]
theorem flat_nd {α β : Type} {f : α → List β} : ∀ {l : List α}, l.Nodup → (∀ x ∈ l, (f x).Nodup) → (∀ x ∈ l, ∀ y ∈ l, x ≠ y → ∀ z, z ∈ f x → z ∉ f y) → (l.flatMap f).Nodup
  | [], _, _, _ => by simp
  | x :: r, h, h1, h2 => by
    obtain ⟨g1, g2⟩ := List.nodup_cons.1 h
    rw [List.flatMap_cons, List.nodup_append]
    refine ⟨h1 x (by simp), flat_nd g2 (fun y hy => h1 y (by simp [hy])) (fun a ha b hb => h2 a (by simp [ha]) b (by simp [hb])), fun a ha b hb e => ?_⟩
    subst e
    obtain ⟨y, hy, hm⟩ := List.mem_flatMap.1 hb
    exact h2 x (by simp) y (by simp [hy]) (fun e => g1 (e ▸ hy)) a ha hm
theorem flat_cf {f : OKey → List COp} (hf : ∀ κ, ∀ o ∈ f κ, o.key = κ) (hc : ∀ κ, CF (f κ)) : ∀ {l : List OKey}, l.Nodup → CF (l.flatMap f)
  | [], _ => List.Pairwise.nil
  | κ :: r, h => by
    obtain ⟨g1, g2⟩ := List.nodup_cons.1 h
    unfold CF
    rw [List.flatMap_cons, List.pairwise_append]
    refine ⟨hc κ, flat_cf hf hc g2, fun a ha b hb => ?_⟩
    obtain ⟨y, hy, hm⟩ := List.mem_flatMap.1 hb
    unfold confl
    rw [decide_eq_false (fun e => g1 (by rw [← hf κ a ha, e, hf y b hm]; exact hy)), Bool.false_and]
theorem thenR_eq {X Y : List COp} (hX : VS X) (hY : VS Y) : thenR X Y = thenS X Y := by
  have hk := (keysU_asc hX hY).2
  have hall : (X ++ Y).all (fun o => !badT X Y o.key) = (keysU X Y).all (fun κ => (thK X Y κ).2) := by
    rw [Bool.eq_iff_iff, List.all_eq_true, List.all_eq_true]
    have e : ∀ κ, (thK X Y κ).2 = !badT X Y κ := fun κ => by
      rw [thK_R hX.cf hY.cf]
      cases badT X Y κ <;> rfl
    constructor
    · intro h κ hκ
      obtain ⟨o, ho, rfl⟩ := (hk κ).1 hκ
      rw [e]; exact h o ho
    · intro h o ho
      have := h o.key ((hk _).2 ⟨o, ho, rfl⟩)
      rwa [e] at this
  unfold thenR thenS
  rw [hall]
  by_cases h : (keysU X Y).all (fun κ => (thK X Y κ).2) = true
  case neg => rw [if_neg h, if_neg h]
  rw [if_pos h, if_pos h]
  have e1 : thF X Y (keysU X Y) = (keysU X Y).flatMap fun κ => pairR (bK X Y κ) (aK X Y κ) := by
    unfold thF
    have : ∀ l : List OKey, (∀ κ ∈ l, (thK X Y κ).2 = true) → l.flatMap (fun κ => (thK X Y κ).1) = l.flatMap fun κ => pairR (bK X Y κ) (aK X Y κ) := by
      intro l
      induction l with
      | nil => intro _; rfl
      | cons κ r ih =>
        intro hl
        have h1 := hl κ (by simp)
        rw [thK_R hX.cf hY.cf] at h1
        rw [List.flatMap_cons, List.flatMap_cons, ih (fun x hx => hl x (by simp [hx])), thK_R hX.cf hY.cf]
        cases hb : badT X Y κ with
        | true => rw [hb] at h1; cases h1
        | false => rfl
    exact this _ (List.all_eq_true.1 h)
  rw [e1]
  have hnd : ((keysU X Y).flatMap fun κ => pairR (bK X Y κ) (aK X Y κ)).Nodup := flat_nd (keysU_nd hX hY) (fun κ _ => (pairR_cf hX hY κ).1) (fun a _ b _ hab z h1 h2 => hab ((pairR_mem h1).2.symm.trans (pairR_mem h2).2))
  have hcf : CF ((keysU X Y).flatMap fun κ => pairR (bK X Y κ) (aK X Y κ)) := flat_cf (fun κ o ho => (pairR_mem ho).2) (fun κ => (pairR_cf hX hY κ).2) (keysU_nd hX hY)
  have hm : ∀ x, x ∈ foldT X Y (X ++ Y) ↔ x ∈ (keysU X Y).flatMap fun κ => pairR (bK X Y κ) (aK X Y κ) := fun x => by
    rw [foldT_mem, List.mem_flatMap]
    constructor
    · rintro ⟨o, ho, hx⟩; exact ⟨o.key, (hk _).2 ⟨o, ho, rfl⟩, hx⟩
    · rintro ⟨κ, hκ, hx⟩
      obtain ⟨o, ho, rfl⟩ := (hk κ).1 hκ
      exact ⟨o, ho, hx⟩
  have hv : ∀ x ∈ (keysU X Y).flatMap fun κ => pairR (bK X Y κ) (aK X Y κ), Vo x := fun x hx => by
    obtain ⟨κ, _, h1⟩ := List.mem_flatMap.1 hx
    exact (pairR_mem h1).1.elim (hX.v x) (hY.v x)
  have hp : (foldT X Y (X ++ Y)).Perm ((keysU X Y).flatMap fun κ => pairR (bK X Y κ) (aK X Y κ)) := (List.perm_ext_iff_of_nodup (foldT_nd _ _ _) hnd).2 hm
  rw [of_good hv hcf]
  have hv2 : ∀ x ∈ foldT X Y (X ++ Y), Vo x := fun x hx => hv x ((hm x).1 hx)
  rw [sort_unique (fun x hx => (hv x hx).wo) hcf ((sortO_perm _).trans hp) (sortO_le fun x hx => (hv2 x hx).wo)]
theorem not_mem_getD {l : List COp} {o : COp} (h : ∀ j, j < l.length → ¬ l.getD j coz = o) : ¬ o ∈ l := fun hm => by
  obtain ⟨j, hj, rfl⟩ := List.mem_iff_getElem.1 hm
  exact h j hj (by simp [List.getD, hj])
theorem find_at {p : COp → Bool} {l : List COp} {k : Nat} (hk : k < l.length) (hn : ∀ j, j < k → p (l.getD j coz) = false) (h : p (l.getD k coz) = true) : l.find? p = some (l.getD k coz) := by
  have e : ∀ j (q : j < l.length), l.getD j coz = l[j] := fun j q => by simp [List.getD, q]
  rw [e k hk] at h ⊢
  rw [List.find?_eq_some_iff_getElem]
  exact ⟨h, k, hk, rfl, fun j hj => by have := hn j hj; rw [e j (by omega)] at this; rw [this]; rfl⟩
theorem find_not {p : COp → Bool} {l : List COp} (hn : ∀ j, j < l.length → p (l.getD j coz) = false) : l.find? p = none := by
  rw [List.find?_eq_none]
  intro x hx
  obtain ⟨j, hj, rfl⟩ := List.mem_iff_getElem.1 hx
  have := hn j hj
  rw [show l.getD j coz = l[j] by simp [List.getD, hj]] at this
  rw [this]; simp
theorem Vo.a63 {o : COp} (h : Vo o) (hk : o.k ≠ 1) : 0 ≤ o.a ∧ o.a < 64 := by
  have h1 := h.chk
  have hr := h.rng
  unfold checkO at h1
  rw [if_neg (by omega)] at h1
  split at h1
  · omega
  split at h1
  · split at h1 <;> omega
  · split at h1 <;> omega
theorem Vo.sh {o : COp} (h : Vo o) {c : Int} (hc : c ≠ 1) (hg : ((o.k == c) == true) = true) : 0 ≤ o.a ∧ o.a < 64 :=
  h.a63 (fun e => by rw [e] at hg; have := eq_of_beq (eq_of_beq hg); omega)
end Go.Lx
/- States after a set of ops, as far as more ops look at them. Nothing of a program stands here. -/
namespace Go.Lx
open Go Go.RowKit
def RoX (o : COp) : Prop := o.p.ok ∧ (o.k = 3 → ∃ x y : Fin 64, o.a = iv x ∧ o.b = iv y)
theorem iv_mk {a : Int} (h : 0 ≤ a ∧ a < 64) : ∃ x : Fin 64, a = iv x := ⟨⟨a.toNat, by omega⟩, by unfold iv; show a = (a.toNat : Int); omega⟩
theorem Vo.rox {o : COp} (h : Vo o) : RoX o := ⟨h.ok, fun hk => by
  obtain ⟨x, hx⟩ := iv_mk (h.a63 (by omega))
  obtain ⟨y, hy⟩ := iv_mk (show 0 ≤ o.b ∧ o.b < 64 by have := h.rng; omega)
  exact ⟨x, y, hx, hy⟩⟩
theorem things_rox {M : List E12} {G : List Ent} {L : List Pr} (hG : OkG G) : ∀ o ∈ thingsO M G L, RoX o := fun o ho => by
  refine ⟨things_ok hG o ho, fun hk => ?_⟩
  unfold thingsO at ho
  rw [List.mem_append, List.mem_append] at ho
  rcases ho with (ho | ho) | ho
  · obtain ⟨e, _, rfl⟩ := List.mem_map.1 ho; exact absurd (show (1 : Int) = 3 from hk) (by decide)
  · obtain ⟨e, _, rfl⟩ := List.mem_map.1 ho; exact absurd (show (2 : Int) = 3 from hk) (by decide)
  · obtain ⟨e, _, rfl⟩ := List.mem_map.1 ho; exact ⟨e.1, e.2, rfl, rfl⟩
section
variable {P : Program} {fr : Fr} {w : World} {d : Option Nat} {t : TypeId} {ps : String} {af : Array Edge} {g : Option (Nat × Bool)} {x y : Operand} {T U : TypeId} {k : IntKind} {a : W64} {i : Int}
theorem o_shrI (hx : ev fr x = u64 a) (hy : ev fr y = .int k i) (hi : 0 ≤ i ∧ i < 64) : xop P fr w ⟨d, .binOp .shr T x y U, t, ps, af, g⟩ = .ok (.value (u64 (a >>> i.toNat))) w :=
  o_shrU (n := i.toNat) hx (by rw [hy, Int.toNat_of_nonneg hi.1]) (by omega)
end
def StE (N : Nat) (d : Int) (F : Nat → Prop) (w : World) (v : Value) : Prop := ∃ d' aU nU cU aR nR cR ad aX nX cX aY nY cY aZ nZ cZ aL cL L aM cM M aG cG G e, v = .tuple #[.agg (stC d' (.slice aU nU cU) (.slice aR nR cR) ad (.slice aL (L : List Pr).length cL) (.slice aM (M : List E12).length cM) (.slice aG (G : List Ent).length cG) (.slice aX nX cX) (.slice aY nY cY) (.slice aZ nZ cZ)).toArray, .int .i64 e] ∧ (e = 0 → d' = d) ∧
  Sl encPr 2 F w aL cL L ∧ Sl encA12 3 F w aM cM M ∧ Sl encE 4 F w aG cG G ∧ OkG G ∧ L.length ≤ N ∧ M.length ≤ N
theorem ste_pack {N : Nat} {d d' e : Int} {F : Nat → Prop} {w : World} {aU aR aX aY aZ : Option Addr} {nU nR nX nY nZ cU cR cX cY cZ : Nat} {ad : W64} {aL aM aG : Option Addr} {cL cM cG : Nat} {L : List Pr} {M : List E12} {G : List Ent} (hd : e = 0 → d' = d) (hL : Sl encPr 2 F w aL cL L) (hM : Sl encA12 3 F w aM cM M) (hG : Sl encE 4 F w aG cG G) (hk : OkG G) (h1 : L.length ≤ N) (h2 : M.length ≤ N) : StE N d F w (.tuple #[.agg (stC d' (.slice aU nU cU) (.slice aR nR cR) ad (.slice aL L.length cL) (.slice aM M.length cM) (.slice aG G.length cG) (.slice aX nX cX) (.slice aY nY cY) (.slice aZ nZ cZ)).toArray, .int .i64 e]) :=
  ⟨d', aU, nU, cU, aR, nR, cR, ad, aX, nX, cX, aY, nY, cY, aZ, nZ, cZ, aL, cL, L, aM, cM, M, aG, cG, G, e, rfl, hd, hL, hM, hG, hk, h1, h2⟩
theorem ste_none {N : Nat} {d e : Int} {F : Nat → Prop} {w : World} (he : e ≠ 0) : StE N d F w (.tuple #[.agg (stC 0 (.slice none 0 0) (.slice none 0 0) 0#64 (.slice none 0 0) (.slice none 0 0) (.slice none 0 0) (.slice none 0 0) (.slice none 0 0) (.slice none 0 0)).toArray, .int .i64 e]) :=
  ste_pack (L := []) (M := []) (G := []) (fun h => absurd h he) Sl.none Sl.none Sl.none OkG.nil (Nat.zero_le _) (Nat.zero_le _)
theorem thenS_vo {X Y : List COp} (hX : VS X) (hY : VS Y) : ∀ x ∈ (thenS X Y).1, Vo x := fun x hx => by
  rw [← thenR_eq hX hY, thenR] at hx
  split at hx
  · obtain ⟨o, _, h⟩ := (foldT_mem X Y _ x).1 ((sortO_perm _).mem_iff.1 hx)
    exact (pairR_mem h).1.elim (hX.v x) (hY.v x)
  · cases hx
theorem thenS_len {X Y : List COp} (hX : VS X) (hY : VS Y) : (thenS X Y).1.length ≤ 2 * (X.length + Y.length) := by
  rw [← thenR_eq hX hY, thenR]
  split
  · have := foldT_le X Y (X ++ Y)
    rw [List.length_append] at this
    show (sortO _).length ≤ _
    rw [sortO_len]; exact this
  · exact Nat.zero_le _
theorem stepT_same {b a : Option COp} {out : List COp} (h : sameR b a = true) : stepT b a out = out := if_pos h
theorem stepT_add {b a : Option COp} {out : List COp} (h : sameR b a = false) : stepT b a out = addR' (addR' out b) a := if_neg (by rw [h]; simp)
theorem thenR_bad {X Y : List COp} {k : Nat} (h : k < (X ++ Y).length) (hb : badT X Y ((X ++ Y).getD k coz).key = true) : thenR X Y = ([], 7) := by
  rw [thenR, if_neg]
  intro hh
  have := List.all_eq_true.1 hh _ (gm (z := coz) h)
  rw [hb] at this
  cases this
theorem thenR_good {X Y : List COp} (hb : ∀ j, j < (X ++ Y).length → badT X Y ((X ++ Y).getD j coz).key = false) : thenR X Y = (sortO (foldT X Y (X ++ Y)), 0) := by
  rw [thenR, if_pos]
  rw [List.all_eq_true]
  intro x hx
  obtain ⟨j, hj, rfl⟩ := List.mem_iff_getElem.1 hx
  have := hb j hj
  rw [show (X ++ Y).getD j coz = (X ++ Y)[j] by rw [List.getD, List.getElem?_eq_getElem hj]; rfl] at this
  rw [this]; rfl
end Go.Lx
/- Pointers to ops, or none. Nothing of a program stands here. -/
namespace Go.Lx
open Go Go.RowKit
def PtO (F : Nat → Prop) (w : World) (p : Option Addr) (o : Option COp) : Prop := (p = none ∧ o = none) ∨ ∃ g off x, p = some ⟨g, off, none⟩ ∧ o = some x ∧ (F g ∧ g < w.heap.size) ∧ At w g off (encCo x)
section
variable {F : Nat → Prop} {w w' : World} {p : Option Addr} {o : Option COp}
theorem PtO.keep {γ : Prop} {D : Nat → Prop} (h : PtO F w p o) (x : Bel γ D w w') (hd : ∀ g, g < w.heap.size → F g → ¬ D g) : PtO F w' p o := by
  rcases h with h | ⟨g, off, y, h1, h2, h3, h4⟩
  · exact .inl h
  · exact .inr ⟨g, off, y, h1, h2, ⟨h3.1, Nat.lt_of_lt_of_le h3.2 x.size⟩, h4.keep x (hd g h3.2 h3.1)⟩
theorem PtO.ext {γ : Prop} (h : PtO F w p o) (x : Ext γ w w') : PtO F w' p o := h.keep x fun _ _ _ h => h
theorem PtO.some (h : PtO F w p o) : p.isNone = o.isNone := by
  rcases h with ⟨rfl, rfl⟩ | ⟨g, off, y, rfl, rfl, _⟩ <;> rfl
theorem PtO.get (h : PtO F w p o) (ho : o.isSome = true) : ∃ g off x, p = Option.some ⟨g, off, none⟩ ∧ o = Option.some x ∧ (F g ∧ g < w.heap.size) ∧ At w g off (encCo x) := by
  rcases h with ⟨_, rfl⟩ | h
  · cases ho
  · exact h
theorem Sl.ptO {a : Option Addr} {c : Nat} {X : List COp} (h : Sl encCo 8 F w a c X) (κ : OKey) (b : Bool) : PtO F w (px a (lastK X κ b)) (opK X κ b) := by
  unfold opK
  cases hl : lastK X κ b with
  | none => exact .inl ⟨rfl, rfl⟩
  | some i =>
    have hi := (lastN_lt hl).1
    obtain ⟨g, off, rfl, h2, h3, _⟩ := h.el i (X.getD i coz) (getE coz hi)
    exact .inr ⟨g, off + i * 8, _, elp_some g off (i * 8), rfl, h2, h3⟩
variable {P : Program} {fr : Fr} {d : Option Nat} {t : TypeId} {ps : String} {af : Array Edge} {gd : Option (Nat × Bool)} {x y : Operand} {T U : TypeId}
theorem o_pneP {tp : TypeId} (hT : P.underlying T = Option.some (.pointer tp)) (h : PtO F w' p o) (hx : ev fr x = .pointer p) (hy : ev fr y = .pointer none) : xop P fr w ⟨d, .binOp .neq T x y U, t, ps, af, gd⟩ = .ok (.value (.bool o.isSome)) w := by
  rw [o_pne hT hx hy, h.some]; cases o <;> rfl
theorem o_peqP {tp : TypeId} (hT : P.underlying T = Option.some (.pointer tp)) (h : PtO F w' p o) (hx : ev fr x = .pointer p) (hy : ev fr y = .pointer none) : xop P fr w ⟨d, .binOp .eql T x y U, t, ps, af, gd⟩ = .ok (.value (.bool o.isNone)) w := by
  rw [o_peq hT hx hy, h.some]
theorem o_nilcP (h : PtO F w' p o) (ho : o.isSome = true) (hx : ev fr x = .pointer p) : xop P fr w ⟨d, .nilCheck x, t, ps, af, gd⟩ = .ok (.value (.pointer p)) w := by
  obtain ⟨g, off, z, rfl, _⟩ := h.get ho
  exact o_nilc hx
theorem o_faP {fs : Array Field} {f n : Nat} {Fd : Field} (hP : P.underlying T = Option.some (.struct fs)) (hf : fs[f]? = Option.some Fd) (hs : ∀ w, (sizeOf Fd.type).run P w = .ok (n + 1) w) (h : PtO F w' p o) (ho : o.isSome = true) (hx : ev fr x = .pointer p) :
    xop P fr w ⟨d, .fieldAddr T x f, t, ps, af, gd⟩ = .ok (.value (.pointer (elp p Fd.offset))) w := by
  obtain ⟨g, off, z, rfl, _⟩ := h.get ho
  rw [elp_some]
  exact o_fa hP hf hs hx
theorem o_ldP (ha : ∀ w, (isAgg T).run P w = .ok false w) (h : PtO F w p o) (ho : o.isSome = true) (hx : ev fr x = .pointer (elp p 4)) : xop P fr w ⟨d, .load T x, t, ps, af, gd⟩ = .ok (.value (.int .i64 (o.getD coz).u)) w := by
  obtain ⟨g, off, z, rfl, rfl, _, h4⟩ := h.get ho
  rw [elp_some] at hx
  exact o_load1 ha hx (h4.get 4 rfl)
end
theorem nnO {α : Type} {o : Option α} (h : (o.isNone == false) = true) : o.isSome = true := by cases o <;> simp_all
theorem ssR {α : Type} {a : Bool} {o : Option α} (h : ((a && o.isSome) == true) = true) : o.isSome = true := by cases a <;> simp_all
theorem ssL {α : Type} {a : Bool} {o : Option α} (h : ((o.isSome && a) == true) = true) : o.isSome = true := by cases a <;> simp_all
theorem noO {α : Type} {o : Option α} (h : o.isSome = false) : o = none := by cases o <;> simp_all
section
variable {r1 a1 r2 a2 om ob oa : Option COp}
def failO (r1 a1 r2 a2 om : Option COp) : Bool := ((r1.isSome || a1.isSome) && r2.isSome) && (om.isNone || (om.getD coz).u != (r2.getD coz).u) || ((((r1.isSome || a1.isSome) && r2.isNone) && a2.isSome) && om.isSome)
def sameO (ob oa : Option COp) : Bool := (ob.isSome && oa.isSome) && (ob.getD coz).u == (oa.getD coz).u
def offO (o : Option COp) : List COp := o.toList.map fun o => { o with add := false }
def onO (o : Option COp) : List COp := o.toList.map fun o => { o with add := true }
theorem takeT_len (ob oa : Option COp) (k : Nat) : (takeT (offO ob) (onO oa) k).length ≤ 2 := by
  match k with
  | 0 => exact Nat.zero_le _
  | 1 => show (offO ob).length ≤ 2; cases ob <;> simp [offO]
  | k + 2 => show (offO ob ++ onO oa).length ≤ 2; cases ob <;> cases oa <;> simp [offO, onO]
theorem thenO_fail (hm : om = if (r1.isSome || a1.isSome) = true then a1 else r2) (h : failO r1 a1 r2 a2 om = true) : thenO r1 a1 r2 a2 = ([], false) := by
  subst hm; exact if_pos h
theorem thenO_same (hb : ob = if (r1.isSome || a1.isSome) = true then r1 else r2) (hm : om = if (r1.isSome || a1.isSome) = true then a1 else r2) (ha : oa = if (r2.isSome || a2.isSome) = true then a2 else om) (h : failO r1 a1 r2 a2 om = false) (hs : sameO ob oa = true) : thenO r1 a1 r2 a2 = ([], true) := by
  subst ha hm hb
  exact (if_neg (by intro e; exact Bool.noConfusion (h.symm.trans e))).trans (if_pos hs)
theorem thenO_two (hb : ob = if (r1.isSome || a1.isSome) = true then r1 else r2) (hm : om = if (r1.isSome || a1.isSome) = true then a1 else r2) (ha : oa = if (r2.isSome || a2.isSome) = true then a2 else om) (h : failO r1 a1 r2 a2 om = false) (hs : sameO ob oa = false) : thenO r1 a1 r2 a2 = (offO ob ++ onO oa, true) := by
  subst ha hm hb
  exact (if_neg (by intro e; exact Bool.noConfusion (h.symm.trans e))).trans (if_neg (by intro e; exact Bool.noConfusion (hs.symm.trans e)))
end
end Go.Lx
