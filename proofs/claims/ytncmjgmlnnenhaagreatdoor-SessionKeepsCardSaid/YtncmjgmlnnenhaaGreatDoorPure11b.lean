/- Several texts in one file. -/
import Derived.Test.YtncmjgmlnnenhaaGreatDoorPure11
import Derived.Test.YtncmjgmlnnenhaaGreatDoorProg
import Derived.Test.YtncmjgmlnnenhaaGreatDoorDraw
import Derived.Laws.StructEq
import Derived.Sort.Statements
import Derived.Test.YtncmjgmlnnenhaaGreatDoorOwn3
import Derived.Carry
import Derived.ProofKit
import Derived.OpenShut
/- The plain functions of the permission layer. Nothing of a program stands here. -/
namespace Go.Lx
set_option linter.unusedSimpArgs false
set_option linter.unusedVariables false
set_option linter.unnecessarySimpa false
structure Perm where
  act : Str
  path : Str
  deep : Bool
  deriving DecidableEq
def Perm.ok (x : Perm) : Prop := x.act.length ≤ 1000000 ∧ x.path.length ≤ 1000000
def checkS (x : Perm) : Int := if !(nmS x.act) then 9 else if !(splitOk x.path) || (x.deep && depthS x.path == 8) then 6 else 0
theorem eqT_succ {α : Type} {x y : List α} {k : Nat} {z : α} (h1 : k < x.length) (h2 : k < y.length) (h : x.take k = y.take k) (hz : x.getD k z = y.getD k z) : x.take (k + 1) = y.take (k + 1) := by
  rw [List.take_succ_eq_append_getElem h1, List.take_succ_eq_append_getElem h2, h]
  simp [List.getD, h1, h2] at hz
  rw [hz]
section
variable {α : Type} [BEq α] [LawfulBEq α] {x y : List α} {k : Nat} {z : α}
theorem eqT_len (h : ¬ (x.length : Int) = y.length) : (x == y) = false := by
  rw [beq_eq_false_iff_ne]; intro e; subst e; exact h rfl
theorem eqT_ne (hz : ¬ x.getD k z = y.getD k z) : (x == y) = false := by
  rw [beq_eq_false_iff_ne]; intro e; subst e; exact hz rfl
theorem eqT_end (h1 : x.length ≤ k) (h2 : y.length ≤ k) (h : x.take k = y.take k) : (x == y) = true := by
  rw [List.take_of_length_le h1, List.take_of_length_le h2] at h
  rw [beq_iff_eq]; exact h
end
def compStep {α : Type} [BEq α] (acc : List α) (x : α) : List α := if acc.getLast? == some x then acc else acc ++ [x]
def compL {α : Type} [BEq α] (l : List α) : List α := l.foldl compStep []
section
variable {α : Type} [BEq α] {l : List α} {k : Nat} {z : α}
theorem comp_snoc (l : List α) (x : α) : compL (l ++ [x]) = compStep (compL l) x := by simp [compL]
theorem comp_succ (h : k < l.length) : compL (l.take (k + 1)) = compStep (compL (l.take k)) (l.getD k z) := by
  rw [List.take_succ_eq_append_getElem h, comp_snoc]; simp [List.getD, h]
theorem comp_one (h : l.length < 2) : compL l = l := by
  match l, h with
  | [], _ => rfl
  | [x], _ => rfl
  | _ :: _ :: _, h => simp at h; omega
theorem comp_take1 (h : 2 ≤ l.length) : compL (l.take 1) = l.take 1 := comp_one (by rw [List.length_take]; omega)
variable [LawfulBEq α]
theorem comp_last : ∀ (l : List α), (compL l).getLast? = l.getLast? := by
  intro l
  rcases List.eq_nil_or_concat l with rfl | ⟨m, x, rfl⟩
  · rfl
  · rw [List.concat_eq_append, comp_snoc]
    unfold compStep
    split
    · rename_i h; rw [eq_of_beq h]; simp
    · simp
omit [BEq α] [LawfulBEq α] in
theorem take_last (h : k < l.length) : (l.take (k + 1)).getLast? = some (l.getD k z) := by
  rw [List.take_succ_eq_append_getElem h, List.getLast?_concat]; simp [List.getD, h]
theorem comp_eq (h : k < l.length) (h1 : 1 ≤ k) (he : l.getD k z = l.getD (k - 1) z) : compL (l.take (k + 1)) = compL (l.take k) := by
  obtain ⟨j, rfl⟩ : ∃ j, k = j + 1 := ⟨k - 1, by omega⟩
  rw [comp_succ (z := z) h, compStep, comp_last, take_last (z := z) (by omega), he]
  simp
theorem comp_ne (h : k < l.length) (h1 : 1 ≤ k) (he : ¬ l.getD k z = l.getD (k - 1) z) : compL (l.take (k + 1)) = compL (l.take k) ++ [l.getD k z] := by
  obtain ⟨j, rfl⟩ : ∃ j, k = j + 1 := ⟨k - 1, by omega⟩
  rw [comp_succ (z := z) h, compStep, comp_last, take_last (z := z) (by omega), if_neg]
  intro e
  have := eq_of_beq e
  simp only [Option.some.injEq] at this
  exact he (by rw [← this]; rfl)
end
theorem tail_get {α : Type} {x l : List α} {i : Nat} {z : α} (h1 : x.length ≤ i) (h2 : i < l.length) : (x ++ l.drop x.length)[i]? = some (l.getD i z) := by
  rw [List.getElem?_append_right h1, List.getElem?_drop, show x.length + (i - x.length) = i from by omega, getE z h2]
theorem tail_set {α : Type} {x l : List α} {u : α} (h : x.length < l.length) : (x ++ l.drop x.length).set x.length u = (x ++ [u]) ++ l.drop (x ++ [u]).length := by
  rw [List.set_append_right _ _ (Nat.le_refl _), Nat.sub_self, List.drop_eq_getElem_cons h, List.set_cons_zero]
  simp
theorem ix_some {α : Type} {p : α → Bool} {l : List α} (z : α) (h : (ixOf p l == -1) = false) : ∃ i : Nat, ixOf p l = i ∧ i < l.length ∧ (l.take i).any p = false ∧ p (l.getD i z) = true := by
  unfold ixOf at h ⊢
  cases hf : l.findIdx? p with
  | none => rw [hf] at h; simp at h
  | some i =>
    rw [List.findIdx?_eq_some_iff_getElem] at hf
    obtain ⟨h1, h2, h3⟩ := hf
    refine ⟨i, rfl, h1, ?_, by simp [List.getD, h1, h2]⟩
    rw [List.any_eq_false]
    intro x hx
    rw [List.mem_take_iff_getElem] at hx
    obtain ⟨j, hj, rfl⟩ := hx
    simpa using h3 j (by omega)
end Go.Lx
/- What the walks ask of this program's tables, and its calls without a body. -/
namespace Go.Proofs.YtncmjgmlnnenhaaGreatDoor
open Go Go.Lx
set_option linter.unusedSimpArgs false
set_option linter.unusedVariables false
set_option linter.unnecessarySimpa false
theorem mixed : Tryz.prog.follows .mixedOrders = true := by kernel_rfl
end Go.Proofs.YtncmjgmlnnenhaaGreatDoor
/- Equality of structs, told by an encoding. Nothing of a program stands here. -/
namespace Go.Lx
open Go
set_option linter.unusedSimpArgs false
set_option linter.unusedVariables false
set_option linter.unnecessarySimpa false
structure EqT {α : Type} [BEq α] (P : Program) (T : TypeId) (enc : α → List Value) : Prop where
  gd : P.eqGuardType P.depth T = false
  run : ∀ (w : World) x y, (Op.equalIn 10000 T (.agg (enc x).toArray) (.agg (enc y).toArray)).run P w = .ok (x == y) w
section
variable {P : Program} {d : Nat} {xs ys : Array Value} {f : Field} {fs : List Field} {v u : Value} {r r' : Bool}
theorem eqF_nil : ∀ w, (Op.eqFields d xs ys []).run P w = .ok true w := fun _ => rfl
theorem eqF_cons (hn : f.name ≠ "_") (ha : ∀ w, (isAgg f.type).run P w = .ok false w) (hx : xs[f.offset]? = some v) (hy : ys[f.offset]? = some u) (he : ∀ w, (Op.equalIn d f.type v u).run P w = .ok r w) (hr : ∀ w, (Op.eqFields d xs ys fs).run P w = .ok r' w) :
    ∀ w, (Op.eqFields d xs ys (f :: fs)).run P w = .ok (r && r') w := by
  intro w
  simp only [Op.eqFields, hn, ne_eq, not_false_eq_true, if_true, Sem.run_bind, part, ha, Result.andThen_ok, Bool.false_eq_true, if_false, hx, hy, Sem.run_pure, he]
  cases r
  · simp
  · simp [hr]
end
section
variable {α : Type} [BEq α] {enc : α → List Value} {P : Program} {fr : Fr} {w : World} {d : Option Nat} {t : TypeId} {ps : String} {af : Array Edge} {g : Option (Nat × Bool)} {x y : Operand} {T U : TypeId} {a b : α}
theorem o_teql (h : EqT P T enc) (hx : ev fr x = .agg (enc a).toArray) (hy : ev fr y = .agg (enc b).toArray) : xop P fr w ⟨d, .binOp .eql T x y U, t, ps, af, g⟩ = .ok (.value (.bool (a == b))) w := by
  simp only [xop, execOp, hx, hy, Sem.run_bind, run_eqGuard_agg w .eql T x y _ _ h.gd, Result.andThen_ok, run_eql_struct, h.run]
  rfl
theorem o_tneq (h : EqT P T enc) (hx : ev fr x = .agg (enc a).toArray) (hy : ev fr y = .agg (enc b).toArray) : xop P fr w ⟨d, .binOp .neq T x y U, t, ps, af, g⟩ = .ok (.value (.bool (!(a == b)))) w := by
  simp only [xop, execOp, hx, hy, Sem.run_bind, run_eqGuard_agg w .neq T x y _ _ h.gd, Result.andThen_ok, run_neq_struct, h.run]
  rfl
end
end Go.Lx
/- Orders: of texts, of paths, of permissions. Nothing of a program stands here. -/
namespace Go.Lx
open Go
set_option linter.unusedSimpArgs false
set_option linter.unusedVariables false
set_option linter.unnecessarySimpa false
structure IsCmp {α : Type} (f : α → α → Int) : Prop where
  eq : ∀ a b, f a b = 0 ↔ a = b
  anti : ∀ a b, f b a = -f a b
  tr : ∀ a b c, f a b < 0 → f b c < 0 → f a c < 0
def Vp (x : Perm) : Prop := x.ok ∧ checkS x = 0
theorem Vp.path {x : Perm} (h : Vp x) : splitOk x.path = true := by
  have := h.2
  unfold checkS at this
  cases hn : nmS x.act <;> cases hs : splitOk x.path <;> simp [hn, hs] at this ⊢
theorem IsCmp.map {α β : Type} {f : β → β → Int} (h : IsCmp f) (m : α → β) (hm : ∀ a b, m a = m b → a = b) : IsCmp fun a b => f (m a) (m b) :=
  ⟨fun a b => ⟨fun e => hm a b ((h.eq _ _).1 e), fun e => (h.eq _ _).2 (by rw [e])⟩, fun a b => h.anti _ _, fun a b c => h.tr _ _ _⟩
abbrev VP := { x : Perm // Vp x }
instance : Inhabited VP := ⟨⟨⟨[114, 101, 97, 100], [47], false⟩, ⟨by decide, by decide⟩, by decide⟩⟩
end Go.Lx
/- From the row's reading of the arguments to slices told by lists; and the closing of a law. Nothing of a program stands here. -/
namespace Go.Lx
open Go Go.RowKit Go.ChangeShapes Go.WideShapes Go.ChangeAt
set_option linter.unusedSimpArgs false
set_option linter.unusedVariables false
set_option linter.unnecessarySimpa false
section
variable {H : Type} {enc : TypeId × Value → H} {P : Program} {w : World} {sp : Nat → Bool} {held : Bool} {fuel : Nat} {T e : TypeId}
theorem cells_get {a : Addr} {n : Nat} {cs : List Value} (h : w.cells? 0 a n = some cs) : cs.length = n ∧ ∀ j v, cs[j]? = some v → w.cell? (a.add j) = some v := by
  unfold World.cells? at h
  rw [if_pos (Nat.zero_le _)] at h
  have h1 := mapM_some_length h
  rw [List.length_range] at h1
  refine ⟨h1, fun j v hj => ?_⟩
  have hlt : j < n := by have := (List.getElem?_eq_some_iff.1 hj).1; omega
  rw [mapM_some_get h j j (by rw [List.getElem?_range hlt]), hj]
theorem cell_plain {a : Addr} {v : Value} (h : w.cell? a = some v) : a.spot = none ∧ a.block < w.heap.size := by
  refine ⟨?_, World.block_lt_of_cell? w a h⟩
  unfold World.cell? at h
  split at h
  · split at h
    · cases h
    · rename_i hs; simpa using hs
  · cases h
theorem add_block (a : Addr) (j : Nat) : (a.add j).block = a.block := by unfold Addr.add; split <;> rfl
theorem open_sl {α : Type} {ec : α → List Value} {k : Nat} {R : α → Prop} {v : Value} {x : DataW H × List MemPlace} (hT : P.underlying T = some (.slice e)) (hk : P.cellsOf e = k) (hpos : 0 < k) (hlen : ∀ z, (ec z).length = k)
    (hel : ∀ (n : Nat) (cs : List Value) (y : DataW H × List MemPlace), DataW.trod enc P w 0 sp held n e cs = some y → ∃ z, cs = ec z ∧ R z) (h : DataW.trod enc P w 0 sp held fuel T [v] = some x) :
    ∃ a c l, v = .slice a l.length c ∧ Sl ec k (Lt w.heap.size) w a c l ∧ ∀ z ∈ l, R z := by
  rcases DataW.trod_slice hT h with ⟨h1, _⟩ | ⟨a, len, cap, elems, rest, n, _, h1, _, _, h4, h5, h6, h7, _, _⟩
  · simp at h1
    subst h1
    exact ⟨none, 0, [], rfl, Sl.none, fun z hz => by simp at hz⟩
  · simp at h1
    subst h1
    have hall : ∀ i, i < len → ∃ z, R z ∧ w.cells? 0 (a.add (i * k)) k = some (ec z) := by
      intro i hi
      have h8 := h7 i hi
      rw [hk] at h8
      have h9 : elems[i]? = some elems[i] := List.getElem?_eq_getElem (by omega)
      rw [h9] at h8
      simp only [Option.bind_eq_some_iff] at h8
      obtain ⟨cs, g1, g2⟩ := h8
      obtain ⟨z, rfl, g4⟩ := hel n cs _ g2
      exact ⟨z, g4, g1⟩
    classical
    have hch : ∃ l : List α, l.length = len ∧ ∀ i z, l[i]? = some z → R z ∧ w.cells? 0 (a.add (i * k)) k = some (ec z) := by
      have hall' := hall
      revert hall'
      generalize len = m
      intro hall'
      induction m with
      | zero => exact ⟨[], rfl, fun i z hz => by simp at hz⟩
      | succ len ih =>
        obtain ⟨l, h1, h2⟩ := ih (fun i hi => hall' i (by omega))
        obtain ⟨z, g1, g2⟩ := hall' len (Nat.lt_succ_self _)
        refine ⟨l ++ [z], by simp [h1], fun i u hu => ?_⟩
        rw [List.getElem?_append] at hu
        split at hu
        · exact h2 i u hu
        · have : i = len := by
            have := (List.getElem?_eq_some_iff.1 hu).1
            simp at this; omega
          subst this
          rw [h1, Nat.sub_self] at hu
          simp at hu
          subst hu
          exact ⟨g1, g2⟩
    obtain ⟨l, hl, hz⟩ := hch
    refine ⟨some a, cap, l, by rw [hl], ⟨by omega, h5, (fun h => by cases h), ?_⟩, ?_⟩
    · intro i z hi
      obtain ⟨_, g2⟩ := hz i z hi
      obtain ⟨g3, g4⟩ := cells_get g2
      have h0 : 0 < (ec z).length := by rw [hlen]; exact hpos
      have c0 := g4 0 (ec z)[0] (List.getElem?_eq_getElem h0)
      obtain ⟨s1, s2⟩ := cell_plain c0
      have hb : ((a.add (i * k)).add 0).block = a.block := by rw [add_block, add_block]
      rw [hb] at s2
      have hs : a.spot = none := by
        have hi0 : i < l.length := (List.getElem?_eq_some_iff.1 hi).1
        obtain ⟨_, q2⟩ := hz 0 l[0] (List.getElem?_eq_getElem (by omega))
        obtain ⟨_, q4⟩ := cells_get q2
        have h00 : 0 < (ec l[0]).length := by rw [hlen]; exact hpos
        have := (cell_plain (q4 0 (ec l[0])[0] (List.getElem?_eq_getElem h00))).1
        simpa [Addr.add] using this
      obtain ⟨b, off, spot⟩ := a
      simp only at hs
      subst hs
      refine ⟨b, off, rfl, ⟨s2, s2⟩, ?_, hlen z⟩
      intro j u hj
      have := g4 j u hj
      have e1 : ((⟨b, off, none⟩ : Addr).add (i * k)).add j = ⟨b, off + i * k + j, none⟩ := by
        unfold Addr.add
        by_cases h1 : i * k = 0 <;> by_cases h2 : j = 0 <;> simp [h1, h2]
      rwa [e1] at this
    · intro z hzm
      obtain ⟨i, hi⟩ := List.mem_iff_getElem?.1 hzm
      exact (hz i z hi).1
theorem open_byte {T : TypeId} {n : Nat} {cs : List Value} {y : DataW H × List MemPlace} (hT : P.underlying T = some (.int .u8)) (h : DataW.trod enc P w 0 sp held n T cs = some y) : ∃ z : UInt8, cs = encB z ∧ True := by
  obtain ⟨m, h1, _, h3⟩ := DataW.trod_int hT h
  obtain ⟨b1, b2⟩ := bounds_u8 h3
  refine ⟨m.toNat.toUInt8, ?_, trivial⟩
  rw [h1, encB]
  have e : ((m.toNat.toUInt8).toNat : Int) = m := by
    have : (m.toNat.toUInt8).toNat = m.toNat := by
      simp [Nat.toUInt8, UInt8.toNat_ofNat]; omega
    rw [this]; omega
  rw [e]
theorem trods_stay (hl : laidOutB P = true) {W W' : World} (hb : Below W.heap.size W W') : ∀ {ts : List TypeId} {vs : List Value} {ds : List (DataW H)} {ps : List MemPlace}, (ts.all fun t => P.readableRec t && decide (t < P.types.size)) = true →
    DataW.TrodAll enc P W 0 (fun _ => true) true ts vs ds ps → (∀ x ∈ ps, x.block < W.heap.size) → ∀ sp : Nat → Bool, (∀ x ∈ ps, sp x.block = true) → DataW.TrodAll enc P W' 0 sp true ts vs ds ps
  | [], [], [], _, _, h, _, _, _ => h
  | [], [], _ :: _, _, _, h, _, _, _ => h.elim
  | [], _ :: _, _, _, _, h, _, _, _ => h.elim
  | _ :: _, [], _, _, _, h, _, _, _ => h.elim
  | _ :: _, _ :: _, [], _, _, h, _, _, _ => h.elim
  | t :: ts, v :: vs, d :: ds, ps, ht, h, hlt, sp, hsp => by
    obtain ⟨p, q, h1, h2, e⟩ := h
    simp only [List.all_cons, Bool.and_eq_true, decide_eq_true_eq] at ht
    refine ⟨p, q, WideElems.Trod_stays hl ht.1.1 ht.1.2 h1 (fun x hx => hb.same (hlt x (by rw [e]; simp [hx]))) (fun x hx => hsp x (by rw [e]; simp [hx])), ?_, e⟩
    exact trods_stay hl hb ht.2 h2 (fun x hx => hlt x (by rw [e]; simp [hx])) sp (fun x hx => hsp x (by rw [e]; simp [hx]))
theorem law_post {f : Func} {s : ChangeSpec} {W W' : World} {args : Array Value} {ds gs : List (DataW H)} {before : List MemPlace} {tb : TypeId} (hl : laidOutB P = true) (hp : (f.params.toList.all fun t => P.readableRec t && decide (t < P.types.size)) = true)
    (hv : s.vars = []) (hs : (s.fn H ds).results = [.lit (.bool true)] ∧ (s.fn H ds).args = ds ∧ (s.fn H ds).vars = []) (hr : f.resultTypes = #[tb]) (htb : P.underlying tb = some .bool)
    (hW : DataW.Whole enc P f.params.toList s.vars false W args.toList ds gs before) (hb : Below W.heap.size W W') :
    s.post enc P f false true false false W args (.bool true) W' := by
  have hlt : ∀ p ∈ before, p.block < W.heap.size := fun p hp => hW.lt p hp
  have hold : ∀ p ∈ before, (fun b => decide (b < W.heap.size)) p.block = true := fun p hp => by simpa using hlt p hp
  have hW' := hW
  obtain ⟨p, q, hA, hV, he, _, _⟩ := hW'
  rw [hv] at hV
  obtain ⟨rfl, rfl⟩ := trodVars_none hV
  rw [List.append_nil] at he
  obtain rfl := he
  have hds : ds ++ ([] : List (DataW H)) = ds := List.append_nil ds
  have hok : ∀ (j : Nat) (t : TypeId) (r : Value), f.resultTypes[j]? = some t → ((Value.bool true).resultList f.resultTypes.size)[j]? = some r → Value.okWide P W' .any 0 t r := ok_one hr rfl (okWide_bool_mk htb _)
  have hres : ∀ (b : Nat) (sp : Nat → Bool) (hd : Bool), DataW.TrodAll enc P W' b sp hd f.resultTypes.toList ((Value.bool true).resultList f.resultTypes.size) [.lit (.bool true)] [] := by
    intro b sp hd
    rw [hr]
    exact trodAll_mk1 (shut_bool htb _)
  have hargs := trods_stay hl hb hp hA hlt
  refine ⟨ds, [], before, [], before, [], hW, ?_, ?_, ?_, World.keptBut_mono (fun x hx => ⟨hx, .inr (.inl hx)⟩) (hb.frame (· ∈ before)), fun _ => ⟨hok, _, [], [] ++ before, ⟨[] ++ before, [], trodAll_append (hargs _ (fun _ _ => rfl)) (hres 0 _ true), ?_, by simp, ?_, fun h => by cases h⟩, fun x hx _ => by simpa using hx⟩⟩
  · rw [hds, hs.1]; exact hres _ _ _
  · rw [hds, hs.2.1]; exact hargs _ hold
  · rw [hds, hs.2.2, hv]; rfl
  · rw [hv]; rfl
  · intro b off hx
    have hin : MemPlace.cell b off ∈ before := by simpa using hx
    rw [hb.frozen (hlt _ hin)]
    obtain ⟨_, _, _, _, _, hz, _⟩ := hW
    exact hz b off hin
end
end Go.Lx
