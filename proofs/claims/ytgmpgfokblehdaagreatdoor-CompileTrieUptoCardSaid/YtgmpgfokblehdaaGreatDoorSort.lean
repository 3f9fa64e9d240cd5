/- Several texts in one file. -/
import Derived.Shelf.GgSortFunc.InsertionK
import Derived.Test.YtgmpgfokblehdaaGreatDoorOwn3
import Derived.Carry
import Derived.ProofKit
import Derived.OpenShut
import Derived.Laws.CopyRow
import Derived.Laws.IdiomCopy
import Derived.RangeFuncIn
import Derived.Lib.TrailingZeros
import Derived.Test.YtgmpgfokblehdaaGreatDoorShelf
set_option linter.unusedSimpArgs false
set_option linter.unusedVariables false
set_option linter.unnecessarySimpa false
/- An own slice as the library's sort takes and leaves it. Nothing of a program stands here. -/
namespace Go.Lx
open Go Go.RowKit
theorem ext_grow {W W' : World} (h : Ext True W W') : ∃ q os', W' = Sort.grow (W.drewN q) os' := by
 have h1 := h.os; have h2 := h.tape; have h3 := h.output; have h4 := h.size
 have h5 : ∀ b, b < W.heap.size → W'.heap[b]? = W.heap[b]? := fun b hb => h.block b hb id
 have hd := h.drawn trivial
 obtain ⟨heap, tape, drawn, os, output⟩ := W
 obtain ⟨heap', tape', drawn', os', output'⟩ := W'
 simp only at h1 h2 h3 h4 h5 hd
 subst h1 h2 h3
 refine ⟨drawn' - drawn, heap'.extract heap.size heap'.size, ?_⟩
 unfold Sort.grow World.drewN
 simp only [World.mk.injEq, and_true, true_and]
 refine ⟨?_, by omega⟩
 apply Array.ext_getElem?
 intro i
 rw [Array.getElem?_append]
 by_cases hi : i < heap.size
 ·rw [if_pos hi]; exact h5 i hi
 ·rw [if_neg hi, Array.getElem?_extract]
  by_cases hj : i < heap'.size
  ·rw [if_pos (by omega), show heap.size + (i - heap.size) = i from by omega]
  ·rw [if_neg (by omega), Array.getElem?_eq_none (by omega)]
section
variable {α : Type} [Inhabited α] {enc : α → List Value} {k m c g off : Nat} {D : Nat → Prop} {e : TypeId} {w : World} {l : List α}
theorem flat_get (he : EncOk enc k) (j : Nat) (hj : j < l.length * k) : (l.flatMap enc)[j]? = some ((Sort.flatK enc k l.toArray)[j]!) := by
 have hk := he.pos
 have h1 : j / k < l.length := Nat.div_lt_of_lt_mul (by rw [Nat.mul_comm]; exact hj)
 have h2 : j % k < k := Nat.mod_lt _ hk
 have e1 : j = (j / k) * k + j % k := by have := Nat.div_add_mod j k; rw [Nat.mul_comm] at this; exact this.symm
 have e2 := fm_get he (List.getElem?_eq_getElem h1) (j % k) h2
 rw [← e1] at e2
 rw [e2, Sort.get_flatK _ _ _ _ (by simpa using hj)]
 have h3 : (l.toArray)[j / k]! = l[j / k] := by simp [h1]
 rw [h3]
 have h4 : j % k < (enc l[j / k]).length := by rw [he.len]; exact h2
 simp [h4]
omit [Inhabited α] in
theorem own_parts (h : Own enc k e D w (.slice (some ⟨g, off, none⟩) m c) l) : off = 0 ∧ m = l.length ∧ D g ∧ ∃ cur : Array Value, w.heap[g]? = some (.cells cur e (0, 0)) ∧ l.length ≤ c ∧ c ≤ maxLen ∧ cur.size = c * k ∧ cur.toList.take (l.length * k) = l.flatMap enc := by
 rcases h.row.2 with ⟨h1, _⟩ | ⟨g', cap, cur, h1, h2, h3, h4, h5, h6, h7⟩
 ·simp at h1
 ·simp at h1
  obtain ⟨⟨rfl, rfl⟩, rfl, rfl⟩ := h1
  exact ⟨rfl, rfl, h.loc _ rfl, cur, h3, h4, h5, h6, h7⟩
theorem own_holds (he : EncOk enc k) (h : Own enc k e D w (.slice (some ⟨g, off, none⟩) m c) l) : Sort.HoldsK enc k w g off l.toArray := by
 obtain ⟨rfl, rfl, _, cur, h3, h4, h5, h6, h7⟩ := own_parts h
 intro j hj
 rw [Sort.size_flatK] at hj
 have hj' : j < l.length * k := by simpa using hj
 have hle : l.length * k ≤ cur.size := by rw [h6]; exact Nat.mul_le_mul_right _ h4
 have hg := flat_get he j hj'
 rw [← h7, List.getElem?_take, if_pos hj'] at hg
 constructor
 ·simp only [World.cell?, Nat.zero_add, h3]
  simpa using hg
 ·simp [World.frozen?, h3]
theorem own_sorted (he : EncOk enc k) {n : Nat} {d' : Array α} {os : Array Obj} (h : Own enc k e D w (.slice (some ⟨g, off, none⟩) m c) l) (hd : d'.size = l.length) :
  Own enc k e D (Go.Proofs.sortWorldK enc k w g off n d' os) (.slice (some ⟨g, off, none⟩) m c) d'.toList ∧ Bel True D w (Go.Proofs.sortWorldK enc k w g off n d' os) := by
 obtain ⟨rfl, rfl, hB, cur, h3, h4, h5, h6, h7⟩ := own_parts h
 have hlt : g < w.heap.size := (Array.getElem?_eq_some_iff.1 h3).1
 have hw : Go.Proofs.sortWorldK enc k w g 0 n d' os = { w with drawn := w.drawn + n, heap := w.heap.modify g (Sort.onCells (Sort.putCells id 0 (Sort.flatK enc k d'))) ++ os } := rfl
 have hle : l.length * k ≤ cur.size := by rw [h6]; exact Nat.mul_le_mul_right _ h4
 have hget : (Go.Proofs.sortWorldK enc k w g 0 n d' os).heap[g]? = some (.cells (Sort.putCells id 0 (Sort.flatK enc k d') cur) e (0, 0)) := by
  rw [hw]
  simp only
  rw [Array.getElem?_append_left (by simpa using hlt), Array.getElem?_modify, if_pos rfl, h3]
  rfl
 constructor
 ·refine ⟨⟨by rw [Zz he], .inr ⟨g, c, _, by rw [← hd]; simp, Nat.zero_le _, hget, by rw [Array.length_toList, hd]; exact h4, h5, by simp [Sort.putCells, h6], ?_⟩⟩, h.loc⟩
  rw [Array.length_toList, hd]
  apply List.ext_getElem?
  intro j
  by_cases hj : j < l.length * k
  ·have h1 := flat_get (l := d'.toList) he j (by rw [Array.length_toList, hd]; exact hj)
   rw [h1, List.getElem?_take, if_pos hj]
   simp only [Sort.putCells, Array.getElem?_toList, Array.getElem?_mapIdx]
   rw [Array.getElem?_eq_getElem (by omega)]
   simp [hd, hj]
  ·rw [List.getElem?_eq_none (by simp [List.length_take]; omega), List.getElem?_eq_none (by rw [Zz he, Array.length_toList, hd]; omega)]
 ·refine ⟨rfl, rfl, rfl, by rw [hw]; simp, ?_, fun _ => by rw [hw]; simp⟩
  intro j hjl hj
  have hne : g ≠ j := fun e => hj (e ▸ hB)
  rw [hw]
  simp only
  rw [Array.getElem?_append_left (by simpa using hjl), Array.getElem?_modify, if_neg hne]
end
end Go.Lx
/- From the row's reading of the arguments to slices told by lists; and the closing of a law. Nothing of a program stands here. -/
namespace Go.Lx
open Go Go.RowKit Go.ChangeShapes Go.WideShapes Go.ChangeAt
section
variable {H : Type} {enc : TypeId × Value → H} {P : Program} {w : World} {sp : Nat → Bool} {held : Bool} {fuel : Nat} {T e : TypeId}
theorem cells_get {a : Addr} {n : Nat} {cs : List Value} (h : w.cells? 0 a n = some cs) : cs.length = n ∧ ∀ j v, cs[j]? = some v → w.cell? (a.add j) = some v := by
 unfold World.cells? at h
 rw [if_pos (Nat.zero_le _)] at h
 have h1 := mapM_some_length h
 rw [List.length_range] at h1
 refine ⟨h1, fun j v hj => ?_⟩
 have hlt : j < n := by have := (List.getElem?_eq_some_iff.1 hj).1; omega
 rw [mapM_some_get h j j (by rw [List.getElem?_range hlt]), hj]
theorem cell_plain {a : Addr} {v : Value} (h : w.cell? a = some v) : a.spot = none ∧ a.block < w.heap.size := by
 refine ⟨?_, World.block_lt_of_cell? w a h⟩
 unfold World.cell? at h
 split at h
 ·split at h
  ·cases h
  ·rename_i hs; simpa using hs
 ·cases h
theorem add_block (a : Addr) (j : Nat) : (a.add j).block = a.block := by unfold Addr.add; split <;> rfl
theorem open_sl {α : Type} {ec : α → List Value} {k : Nat} {R : α → Prop} {v : Value} {x : DataW H × List MemPlace} (hT : P.underlying T = some (.slice e)) (hk : P.cellsOf e = k) (hpos : 0 < k) (hlen : ∀ z, (ec z).length = k)
  (hel : ∀ (n : Nat) (cs : List Value) (y : DataW H × List MemPlace), DataW.trod enc P w 0 sp held n e cs = some y → ∃ z, cs = ec z ∧ R z) (h : DataW.trod enc P w 0 sp held fuel T [v] = some x) :
  ∃ a c l, v = .slice a l.length c ∧ Sl ec k (Lt w.heap.size) w a c l ∧ ∀ z ∈ l, R z := by
 rcases DataW.trod_slice hT h with ⟨h1, _⟩ | ⟨a, len, cap, elems, rest, n, _, h1, _, _, h4, h5, h6, h7, _, _⟩
 ·simp at h1
  subst h1
  exact ⟨none, 0, [], rfl, Sl.none, fun z hz => by simp at hz⟩
 ·simp at h1
  subst h1
  have hall : ∀ i, i < len → ∃ z, R z ∧ w.cells? 0 (a.add (i * k)) k = some (ec z) := by
   intro i hi
   have h8 := h7 i hi
   rw [hk] at h8
   have h9 : elems[i]? = some elems[i] := List.getElem?_eq_getElem (by omega)
   rw [h9] at h8
   simp only [Option.bind_eq_some_iff] at h8
   obtain ⟨cs, g1, g2⟩ := h8
   obtain ⟨z, rfl, g4⟩ := hel n cs _ g2
   exact ⟨z, g4, g1⟩
  classical
  have hch : ∃ l : List α, l.length = len ∧ ∀ i z, l[i]? = some z → R z ∧ w.cells? 0 (a.add (i * k)) k = some (ec z) := by
   have hall' := hall
   revert hall'
   generalize len = m
   intro hall'
   induction m with
   | zero => exact ⟨[], rfl, fun i z hz => by simp at hz⟩
   | succ len ih =>
    obtain ⟨l, h1, h2⟩ := ih (fun i hi => hall' i (by omega))
    obtain ⟨z, g1, g2⟩ := hall' len (Nat.lt_succ_self _)
    refine ⟨l ++ [z], by simp [h1], fun i u hu => ?_⟩
    rw [List.getElem?_append] at hu
    split at hu
    ·exact h2 i u hu
    ·have : i = len := by
      have := (List.getElem?_eq_some_iff.1 hu).1
      simp at this; omega
     subst this
     rw [h1, Nat.sub_self] at hu
     simp at hu
     subst hu
     exact ⟨g1, g2⟩
  obtain ⟨l, hl, hz⟩ := hch
  refine ⟨some a, cap, l, by rw [hl], ⟨by omega, h5, (fun h => by cases h), ?_⟩, ?_⟩
  ·intro i z hi
   obtain ⟨_, g2⟩ := hz i z hi
   obtain ⟨g3, g4⟩ := cells_get g2
   have h0 : 0 < (ec z).length := by rw [hlen]; exact hpos
   have c0 := g4 0 (ec z)[0] (List.getElem?_eq_getElem h0)
   obtain ⟨s1, s2⟩ := cell_plain c0
   have hb : ((a.add (i * k)).add 0).block = a.block := by rw [add_block, add_block]
   rw [hb] at s2
   have hs : a.spot = none := by
    have hi0 : i < l.length := (List.getElem?_eq_some_iff.1 hi).1
    obtain ⟨_, q2⟩ := hz 0 l[0] (List.getElem?_eq_getElem (by omega))
    obtain ⟨_, q4⟩ := cells_get q2
    have h00 : 0 < (ec l[0]).length := by rw [hlen]; exact hpos
    have := (cell_plain (q4 0 (ec l[0])[0] (List.getElem?_eq_getElem h00))).1
    simpa [Addr.add] using this
   obtain ⟨b, off, spot⟩ := a
   simp only at hs
   subst hs
   refine ⟨b, off, rfl, ⟨s2, s2⟩, ?_, hlen z⟩
   intro j u hj
   have := g4 j u hj
   have e1 : ((⟨b, off, none⟩ : Addr).add (i * k)).add j = ⟨b, off + i * k + j, none⟩ := by
    unfold Addr.add
    by_cases h1 : i * k = 0 <;> by_cases h2 : j = 0 <;> simp [h1, h2]
   rwa [e1] at this
  ·intro z hzm
   obtain ⟨i, hi⟩ := List.mem_iff_getElem?.1 hzm
   exact (hz i z hi).1
theorem YD {T : TypeId} {n : Nat} {cs : List Value} {y : DataW H × List MemPlace} (hT : P.underlying T = some (.int .u8)) (h : DataW.trod enc P w 0 sp held n T cs = some y) : ∃ z : UInt8, cs = encB z ∧ True := by
 obtain ⟨m, h1, _, h3⟩ := DataW.trod_int hT h
 obtain ⟨b1, b2⟩ := bounds_u8 h3
 refine ⟨m.toNat.toUInt8, ?_, trivial⟩
 rw [h1, encB]
 have e : ((m.toNat.toUInt8).toNat : Int) = m := by
  have : (m.toNat.toUInt8).toNat = m.toNat := by
   simp [Nat.toUInt8, UInt8.toNat_ofNat]; omega
  rw [this]; omega
 rw [e]
theorem trods_stay (hl : laidOutB P = true) {W W' : World} (hb : Below W.heap.size W W') : ∀ {ts : List TypeId} {vs : List Value} {ds : List (DataW H)} {ps : List MemPlace}, (ts.all fun t => P.readableRec t && decide (t < P.types.size)) = true →
  DataW.TrodAll enc P W 0 (fun _ => true) true ts vs ds ps → (∀ x ∈ ps, x.block < W.heap.size) → ∀ sp : Nat → Bool, (∀ x ∈ ps, sp x.block = true) → DataW.TrodAll enc P W' 0 sp true ts vs ds ps
 | [], [], [], _, _, h, _, _, _ => h
 | [], [], _ :: _, _, _, h, _, _, _ => h.elim
 | [], _ :: _, _, _, _, h, _, _, _ => h.elim
 | _ :: _, [], _, _, _, h, _, _, _ => h.elim
 | _ :: _, _ :: _, [], _, _, h, _, _, _ => h.elim
 | t :: ts, v :: vs, d :: ds, ps, ht, h, hlt, sp, hsp => by
  obtain ⟨p, q, h1, h2, e⟩ := h
  simp only [List.all_cons, Bool.and_eq_true, decide_eq_true_eq] at ht
  refine ⟨p, q, WideElems.Trod_stays hl ht.1.1 ht.1.2 h1 (fun x hx => hb.same (hlt x (by rw [e]; simp [hx]))) (fun x hx => hsp x (by rw [e]; simp [hx])), ?_, e⟩
  exact trods_stay hl hb ht.2 h2 (fun x hx => hlt x (by rw [e]; simp [hx])) sp (fun x hx => hsp x (by rw [e]; simp [hx]))
theorem law_post {f : Func} {s : ChangeSpec} {W W' : World} {args : Array Value} {ds gs : List (DataW H)} {before : List MemPlace} {tb : TypeId} (hl : laidOutB P = true) (hp : (f.params.toList.all fun t => P.readableRec t && decide (t < P.types.size)) = true)
  (hv : s.vars = []) (hs : (s.fn H ds).results = [.lit (.bool true)] ∧ (s.fn H ds).args = ds ∧ (s.fn H ds).vars = []) (hr : f.resultTypes = #[tb]) (htb : P.underlying tb = some .bool)
  (hW : DataW.Whole enc P f.params.toList s.vars false W args.toList ds gs before) (hb : Below W.heap.size W W') :
  s.post enc P f false true false false W args (.bool true) W' := by
 have hlt : ∀ p ∈ before, p.block < W.heap.size := fun p hp => hW.lt p hp
 have hold : ∀ p ∈ before, (fun b => decide (b < W.heap.size)) p.block = true := fun p hp => by simpa using hlt p hp
 have hW' := hW
 obtain ⟨p, q, hA, hV, he, _, _⟩ := hW'
 rw [hv] at hV
 obtain ⟨rfl, rfl⟩ := trodVars_none hV
 rw [List.append_nil] at he
 obtain rfl := he
 have hds : ds ++ ([] : List (DataW H)) = ds := List.append_nil ds
 have hok : ∀ (j : Nat) (t : TypeId) (r : Value), f.resultTypes[j]? = some t → ((Value.bool true).resultList f.resultTypes.size)[j]? = some r → Value.okWide P W' .any 0 t r := ok_one hr rfl (okWide_bool_mk htb _)
 have hres : ∀ (b : Nat) (sp : Nat → Bool) (hd : Bool), DataW.TrodAll enc P W' b sp hd f.resultTypes.toList ((Value.bool true).resultList f.resultTypes.size) [.lit (.bool true)] [] := by
  intro b sp hd
  rw [hr]
  exact trodAll_mk1 (shut_bool htb _)
 have hargs := trods_stay hl hb hp hA hlt
 refine ⟨ds, [], before, [], before, [], hW, ?_, ?_, ?_, World.keptBut_mono (fun x hx => ⟨hx, .inr (.inl hx)⟩) (hb.frame (· ∈ before)), fun _ => ⟨hok, _, [], [] ++ before, ⟨[] ++ before, [], trodAll_append (hargs _ (fun _ _ => rfl)) (hres 0 _ true), ?_, by simp, ?_, fun h => by cases h⟩, fun x hx _ => by simpa using hx⟩⟩
 ·rw [hds, hs.1]; exact hres _ _ _
 ·rw [hds, hs.2.1]; exact hargs _ hold
 ·rw [hds, hs.2.2, hv]; rfl
 ·rw [hv]; rfl
 ·intro b off hx
  have hin : MemPlace.cell b off ∈ before := by simpa using hx
  rw [hb.frozen (hlt _ hin)]
  obtain ⟨_, _, _, _, _, hz, _⟩ := hW
  exact hz b off hin
end
end Go.Lx
/- A world that holds the listed tables: for the rows' witnesses. Nothing of a program stands here. -/
namespace Go.Lx
open Go
def datC : DataW Unit → List Value
 | .lit (.int k n) => [.int k n]
 | .lit (.bool b) => [.bool b]
 | .lit (.string s) => [.string ⟨s.toArray⟩]
 | .agg l => datCs l
 | _ => []
where datCs : List (DataW Unit) → List Value
 | [] => []
 | d :: r => datC d ++ datCs r
def layIn (h : Array Obj) (g : Nat) (d : DataW Unit) : Array Obj := h.modify g fun
 | .cells _ t frozen => .cells (datC d).toArray t frozen
 | o => o
end Go.Lx
/- Words of 64 bits: the rules of their operations. Nothing of a program stands here. -/
namespace Go.Lx
open Go
abbrev W64 := BitVec 64
def u64 (x : W64) : Value := .int .u64 (x.toNat : Int)
theorem wrapU (x : W64) : IntKind.u64.wrap (x.toNat : Int) = (x.toNat : Int) := by
 have h := x.isLt
 simp [IntKind.wrap, IntKind.bits, IntKind.signed]
 omega
theorem wrapU' (n : Nat) : IntKind.u64.wrap (n : Int) = ((BitVec.ofNat 64 n).toNat : Int) := by
 simp [IntKind.wrap, IntKind.bits, IntKind.signed]
theorem Jc (x : W64) : BitVec.ofInt 64 (x.toNat : Int) = x := by
 rw [BitVec.ofInt_natCast, BitVec.ofNat_toNat, BitVec.setWidth_eq]
section
variable {P : Program} {fr : Fr} {w : World} {d : Option Nat} {t : TypeId} {ps : String} {af : Array Edge} {g : Option (Nat × Bool)} {x y z : Operand} {k : IntKind} {a b : W64} {T U : TypeId} {n : Nat}
theorem o_band (hx : ev fr x = u64 a) (hy : ev fr y = u64 b) : xop P fr w ⟨d, .binOp .and T x y U, t, ps, af, g⟩ = .ok (.value (u64 (a &&& b))) w := by
 have e0 : IntKind.u64.wrap ((BitVec.ofInt 64 (a.toNat : Int) &&& BitVec.ofInt 64 (b.toNat : Int)).toNat : Int) = ((a &&& b).toNat : Int) := by rw [Jc, Jc, wrapU]
 have e : IntKind.u64.wrap ((BitVec.ofInt IntKind.u64.bits (a.toNat : Int) &&& BitVec.ofInt IntKind.u64.bits (b.toNat : Int)).toNat : Int) = ((a &&& b).toNat : Int) := e0
 simp only [xop, execOp, hx, hy, u64, eqGuard, binOp, Op.intBits]
 simp only [e]; simp
theorem o_bor (hx : ev fr x = u64 a) (hy : ev fr y = u64 b) : xop P fr w ⟨d, .binOp .or T x y U, t, ps, af, g⟩ = .ok (.value (u64 (a ||| b))) w := by
 have e0 : IntKind.u64.wrap ((BitVec.ofInt 64 (a.toNat : Int) ||| BitVec.ofInt 64 (b.toNat : Int)).toNat : Int) = ((a ||| b).toNat : Int) := by rw [Jc, Jc, wrapU]
 have e : IntKind.u64.wrap ((BitVec.ofInt IntKind.u64.bits (a.toNat : Int) ||| BitVec.ofInt IntKind.u64.bits (b.toNat : Int)).toNat : Int) = ((a ||| b).toNat : Int) := e0
 simp only [xop, execOp, hx, hy, u64, eqGuard, binOp, Op.intBits]
 simp only [e]; simp
theorem o_bandn (hx : ev fr x = u64 a) (hy : ev fr y = u64 b) : xop P fr w ⟨d, .binOp .andNot T x y U, t, ps, af, g⟩ = .ok (.value (u64 (a &&& ~~~b))) w := by
 have e0 : IntKind.u64.wrap ((BitVec.ofInt 64 (a.toNat : Int) &&& ~~~BitVec.ofInt 64 (b.toNat : Int)).toNat : Int) = ((a &&& ~~~b).toNat : Int) := by rw [Jc, Jc, wrapU]
 have e : IntKind.u64.wrap ((BitVec.ofInt IntKind.u64.bits (a.toNat : Int) &&& ~~~BitVec.ofInt IntKind.u64.bits (b.toNat : Int)).toNat : Int) = ((a &&& ~~~b).toNat : Int) := e0
 simp only [xop, execOp, hx, hy, u64, eqGuard, binOp, Op.intBits]
 simp only [e]; simp
theorem o_shlU (hx : ev fr x = u64 a) (hy : ev fr y = .int k (n : Int)) (hn : n < 64) : xop P fr w ⟨d, .binOp .shl T x y U, t, ps, af, g⟩ = .ok (.value (u64 (a <<< n))) w := by
 have e : IntKind.u64.wrap ((a.toNat : Int) * 2 ^ n) = ((a <<< n).toNat : Int) := by
  have h : ((a.toNat : Int) * 2 ^ n) = ((a.toNat * 2 ^ n : Nat) : Int) := by simp
  rw [h, wrapU', BitVec.toNat_shiftLeft, BitVec.toNat_ofNat, Nat.shiftLeft_eq]
 have h0 : ¬ ((n : Int) < 0) := by omega
 have h1 : min ((n : Int).toNat) 64 = n := by rw [Int.toNat_natCast]; omega
 have h1' : min ((n : Int).toNat) IntKind.u64.bits = n := h1
 simp only [xop, execOp, hx, hy, u64, eqGuard, binOp, Op.shift, if_neg h0]
 simp only [h1', e]; simp
theorem o_shrU (hx : ev fr x = u64 a) (hy : ev fr y = .int k (n : Int)) (hn : n < 64) : xop P fr w ⟨d, .binOp .shr T x y U, t, ps, af, g⟩ = .ok (.value (u64 (a >>> n))) w := by
 have e : Int.fdiv (a.toNat : Int) (2 ^ n) = ((a >>> n).toNat : Int) := by
  rw [BitVec.toNat_ushiftRight, Nat.shiftRight_eq_div_pow]
  rw [Int.fdiv_eq_ediv_of_nonneg _ (by exact Int.le_of_lt (Int.pow_pos (by decide)))]
  simp
 have h0 : ¬ ((n : Int) < 0) := by omega
 have h1 : min ((n : Int).toNat) 64 = n := by rw [Int.toNat_natCast]; omega
 have h1' : min ((n : Int).toNat) IntKind.u64.bits = n := h1
 simp only [xop, execOp, hx, hy, u64, eqGuard, binOp, Op.shift, if_neg h0]
 simp only [h1', e]; simp
theorem eqU (a b : W64) : ((a.toNat : Int) == (b.toNat : Int)) = (a == b) := by
 rw [Bool.eq_iff_iff, beq_iff_eq, beq_iff_eq, ← BitVec.toNat_inj]; omega
theorem o_eqU (hx : ev fr x = u64 a) (hy : ev fr y = u64 b) : xop P fr w ⟨d, .binOp .eql T x y U, t, ps, af, g⟩ = .ok (.value (.bool (a == b))) w := by
 rw [Zu hx hy, eqU]
theorem o_neU (hx : ev fr x = u64 a) (hy : ev fr y = u64 b) : xop P fr w ⟨d, .binOp .neq T x y U, t, ps, af, g⟩ = .ok (.value (.bool (a != b))) w := by
 rw [Zv hx hy]; unfold bne; rw [eqU]
theorem o_subU (hx : ev fr x = u64 a) (hy : ev fr y = u64 b) : xop P fr w ⟨d, .binOp .sub T x y U, t, ps, af, g⟩ = .ok (.value (u64 (a - b))) w := by
 have e : IntKind.u64.wrap ((a.toNat : Int) - (b.toNat : Int)) = ((a - b).toNat : Int) := by
  have h1 := a.isLt
  have h2 := b.isLt
  rw [BitVec.toNat_sub]
  simp [IntKind.wrap, IntKind.bits, IntKind.signed]
  omega
 simp [xop, execOp, hx, hy, u64, eqGuard, binOp, Op.intArith, e]
end
end Go.Lx
/- Sets of numbers below 64, as a slice of at most one word; copy. Nothing of a program stands here. -/
namespace Go.Lx
open Go
section
variable {rd : Option Nat} {α : Type} {enc : α → List Value} {P : Program} {n by_ : Nat} {K : Fr → World → Prop} {fr : Fr} {w : World} {T e : TypeId} {z : Value} {D F : Nat → Prop} {l s : List α}
theorem run_copy_any (w : World) (dT sT ty elem : TypeId) (d a : Option Addr) (dLen dCap sCap : Nat) (hu : P.underlying dT = some (.slice elem)) (hs : (P.info? elem).map (·.size) = some 1) :
  (Builtin.copy_ #[dT, sT] ty #[.slice d dLen dCap, .slice a 0 sCap]).run P w = .ok (goInt 0) w :=
 run_copy_none w dT sT ty elem d a dLen dCap 0 sCap hu hs (Nat.zero_min _)
theorem Rg_copy {ops : Array Oper} {rest : List Oper} {d : Option Nat} {ty : TypeId} {pos : String} {af : Array Edge} {x y : Operand} {a a' : Option Addr} {m c c' : Nat} (hd : dstOk n d = true)
  (he : EncOk enc 1) (ht : ElT P T e 1 by_ z) (hx : ev fr x = .slice a m c) (hy : ev fr y = .slice a' s.length c') (ho : Own enc 1 e D w (.slice a m c) l) (hs : Sl enc 1 F w a' c' s) (hle : s.length ≤ l.length)
  (hk : ∀ w', Bel True D w w' → Own enc 1 e D w' (.slice a m c) (s ++ l.drop s.length) → Rg rd P n ops rest K (fr.put d (.int .i64 (s.length : Int))) w') :
  Rg rd P n ops (⟨d, .call { callee := .builtin .copy, args := #[x, y], argTypes := #[T, T] }, ty, pos, af, none⟩ :: rest) K fr w := by
 obtain ⟨i, hi, hzz, hsz, hby⟩ := ht.inf
 have hs1 : (P.info? e).map (·.size) = some 1 := by rw [hi]; simp [hsz]
 by_cases h0 : s = []
 ·subst h0
  have hr := run_copy_any (P := P) w T T ty e a a' m c c' ht.sl hs1
  refine ZX hd (v := .int .i64 0) (w' := w) ?_ (hk _ (Bel.refl _ _) (by simpa using ho))
  have hy' : ev fr y = .slice a' 0 c' := hy
  simp [execOp, resolve, invoke, builtin, hx, hy', hr, goInt]
 ·obtain ⟨b, off, rfl, _, hat⟩ := hs.cells he h0
  rcases ho.row.2 with ⟨h1, h2⟩ | ⟨g, cap, cur, h1, h2, h3, h4, h5, h6, h7⟩
  ·exact absurd (List.eq_nil_of_length_eq_zero (by omega)) h0
  ·have hsl : a = some ⟨g, 0, none⟩ ∧ m = l.length ∧ c = cap := by simp at h1; exact h1
   obtain ⟨rfl, rfl, rfl⟩ := hsl
   have hcl : (s.flatMap enc).length = s.length := by rw [Zz he]; omega
   have hll : (l.flatMap enc).length = l.length := by rw [Zz he]; omega
   have hsrc : ∀ j v, (s.flatMap enc)[j]? = some v → w.cell? ((⟨b, off, none⟩ : Addr).add j) = some v := by
    intro j v hj
    have := hat j v hj
    unfold Addr.add
    by_cases hz : j = 0
    ·subst hz; simpa using this
    ·rw [if_neg hz]; exact this
   have hr := run_copy_row (P := P) w T T ty e g 0 l.length c ⟨b, off, none⟩ s.length c' cur e (s.flatMap enc) ht.sl hs1 h3 (by rw [hcl]; exact (Nat.min_eq_left hle).symm) hsrc (by rw [hcl]; omega) (fm_one he _)
   rw [hcl] at hr
   refine ZX hd (v := .int .i64 (s.length : Int)) ?_ (hk (w.setRow g (cur.toList.take 0 ++ s.flatMap enc ++ cur.toList.drop (0 + s.length)).toArray) ?_ ?_)
   ·simp only [List.take_zero, List.nil_append, Nat.zero_add] at hr ⊢
    simp [execOp, resolve, invoke, builtin, hx, hy, hr, goInt]
   ·exact ⟨rfl, rfl, rfl, by simp, fun q _ hq => setRow_other w g q _ (fun e => hq (by subst e; exact ho.loc _ rfl)), fun _ => Nat.le_refl _⟩
   ·have hcur : (cur.toList.take 0 ++ s.flatMap enc ++ cur.toList.drop (0 + s.length)).length = cur.size := by
     simp only [List.take_zero, List.nil_append, List.length_append, hcl, List.length_drop, Array.length_toList]; omega
    have hlen : (s ++ l.drop s.length).length = l.length := by rw [List.length_append, List.length_drop]; omega
    refine ⟨⟨by rw [Zz he], .inr ⟨g, c, _, by simp [hlen], h2, setRow_heap w g cur _ e _ h3, by rw [hlen]; exact h4, h5, by rw [List.size_toArray, hcur, h6], ?_⟩⟩, ho.loc⟩
    rw [hlen, List.toList_toArray, List.flatMap_append]
    simp only [List.take_zero, List.nil_append, Nat.zero_add]
    have t2 : (l.drop s.length).flatMap enc = (l.flatMap enc).drop s.length := by
     have := YB he (l := l) s.length
     have e1 : l.flatMap enc = (l.take s.length).flatMap enc ++ (l.drop s.length).flatMap enc := by rw [← List.flatMap_append, List.take_append_drop]
     have e2 : ((l.take s.length).flatMap enc).length = s.length := by rw [Zz he, List.length_take]; omega
     rw [e1, List.drop_left' e2]
    rw [t2, ← h7, List.drop_take, List.take_append, hcl, List.take_of_length_le (by rw [hcl]; omega)]
end
def encU (x : W64) : List Value := [u64 x]
theorem Zh : EncOk encU 1 := ⟨by decide, fun _ => rfl, fun x u hu => by simp [encU] at hu; subst hu; rfl⟩
theorem gm {α : Type} {l : List α} {k : Nat} {z : α} (h : k < l.length) : l.getD k z ∈ l := by
 have : l.getD k z = l[k] := by simp [List.getD, h]
 rw [this]; exact List.getElem_mem h
theorem getD_out {α : Type} {l : List α} {k : Nat} (z : α) (h : l.length ≤ k) : l.getD k z = z := by simp [List.getD, List.getElem?_eq_none h]
def wl (x : W64) : List W64 := if x = 0 then [] else [x]
structure SV where
 a : Option Addr
 c : Nat
 x : W64
def encSV (s : SV) : List Value := [.slice s.a (wl s.x).length s.c]
theorem Q9 : EncOk encSV 1 := ⟨by decide, fun _ => rfl, fun x u hu => by simp [encSV] at hu; subst hu; rfl⟩
def sz : SV := ⟨none, 0, 0⟩
theorem JN {x : W64} (h : x ≠ 0) : wl x = [x] := by rw [wl, if_neg h]
theorem Ja (x : W64) : (wl x).length ≤ 1 := by unfold wl; split <;> simp
theorem Jj (x : W64) : (wl x).getD 0 0 = x := by
 unfold wl
 split
 ·rename_i h; rw [h]; rfl
 ·rfl
theorem wl_getk {x : W64} {k : Nat} (h : 1 ≤ k) : (wl x).getD k 0 = 0 := by
 have := Ja x
 simp [List.getD, List.getElem?_eq_none (by omega : (wl x).length ≤ k)]
theorem Z2 (x : W64) : (x = 0 ∧ wl x = []) ∨ (x ≠ 0 ∧ wl x = [x]) := by
 by_cases h : x = 0
 ·exact .inl ⟨h, by rw [h]; rfl⟩
 ·exact .inr ⟨h, JN h⟩
def hasW (x : W64) (i : Int) : Bool := decide (0 ≤ i) && decide (i < 64) && x.getLsbD i.toNat
theorem Vg (x : W64) (i : Nat) : hasW x (i : Int) = x.getLsbD i := by
 have h0 : decide ((0 : Int) ≤ (i : Int)) = true := decide_eq_true (by omega)
 unfold hasW
 rw [h0, Int.toNat_natCast, Bool.true_and]
 by_cases h : i < 64
 ·rw [decide_eq_true (by omega : (i : Int) < 64), Bool.true_and]
 ·rw [decide_eq_false (by omega : ¬ (i : Int) < 64), BitVec.getLsbD_of_ge _ _ (by omega)]; rfl
theorem bit_and (x : W64) (k : Nat) (h : k < 64) : (((x >>> k) &&& 1#64) == 1#64) = x.getLsbD k := by
 have e : (x >>> k) &&& 1#64 = if x.getLsbD k then 1#64 else 0#64 := by
  apply BitVec.eq_of_getLsbD_eq
  intro i hi
  rw [BitVec.getLsbD_and, BitVec.getLsbD_ushiftRight]
  cases hx : x.getLsbD k with
  | false =>
   by_cases h0 : i = 0
   ·subst h0; simp [hx]
   ·simp [BitVec.getLsbD_one, h0]
  | true =>
   by_cases h0 : i = 0
   ·subst h0; simp [hx]
   ·simp [BitVec.getLsbD_one, h0]
 rw [e]
 cases x.getLsbD k <;> simp
theorem has_eq (x : W64) (i : Int) : ((decide (0 ≤ i) && decide (i ≤ 4095)) && ((((wl x).getD (i.toNat / 64) 0 >>> (i.toNat % 64)) &&& 1#64) == 1#64)) = hasW x i := by
 rw [bit_and _ _ (Nat.mod_lt _ (by decide))]
 unfold hasW
 by_cases h0 : 0 ≤ i
 ·by_cases h1 : i < 64
  ·have e1 : i.toNat / 64 = 0 := by omega
   have e2 : i.toNat % 64 = i.toNat := by omega
   rw [e1, e2, Jj]
   have : i ≤ 4095 := by omega
   simp [h0, h1, this]
  ·rw [wl_getk (by omega)]
   simp [h1]
 ·simp [h0]
def oneW (i : Nat) : W64 := 1#64 <<< i
theorem Z3 (i j : Nat) (hi : i < 64) : (oneW i).getLsbD j = decide (j = i) := by
 unfold oneW
 rw [BitVec.getLsbD_shiftLeft, BitVec.getLsbD_one]
 by_cases h : j = i
 ·subst h; simp [hi]
 ·by_cases h2 : j < i
  ·simp [h2, h]
  ·have : ¬ (j - i = 0) := by omega
   simp [this, h]
theorem with_has {x : W64} {i : Nat} (hi : i < 64) (h : x.getLsbD i = true) : x ||| oneW i = x := by
 apply BitVec.eq_of_getLsbD_eq
 intro j hj
 rw [BitVec.getLsbD_or, Z3 i j hi]
 by_cases e : j = i
 ·subst e; simp [h]
 ·simp [e]
theorem with_ne {x : W64} {i : Nat} (hi : i < 64) : x ||| oneW i ≠ 0 := by
 intro h
 have := congrArg (fun y : W64 => y.getLsbD i) h
 simp [Z3 i i hi] at this
section
variable {P : Program} {fr : Fr} {w : World} {d : Option Nat} {t : TypeId} {ps : String} {af : Array Edge} {g : Option (Nat × Bool)} {x y z : Operand} {k : IntKind} {T U : TypeId}
theorem o_quoT {a : Int} {b : Nat} (hx : ev fr x = .int .i64 a) (hy : ev fr y = .int .i64 (b : Int)) (ha : 0 ≤ a) (hb : 0 < b) (hr : I64 a) : xop P fr w ⟨d, .binOp .quo T x y U, t, ps, af, g⟩ = .ok (.value (.int .i64 ((a.toNat / b : Nat) : Int))) w := by
 rw [o_quo hx hy ha (by omega) hr]
 have : a / (b : Int) = ((a.toNat / b : Nat) : Int) := by
  rw [Int.natCast_ediv, Int.toNat_of_nonneg ha]
 rw [this]
theorem Yq {a : Int} {b : Nat} (hx : ev fr x = .int .i64 a) (hy : ev fr y = .int .i64 (b : Int)) (ha : 0 ≤ a) (hb : 0 < b) (hr : I64 a) : xop P fr w ⟨d, .binOp .rem T x y U, t, ps, af, g⟩ = .ok (.value (.int .i64 ((a.toNat % b : Nat) : Int))) w := by
 rw [o_rem hx hy ha (by omega) hr]
 have : a % (b : Int) = ((a.toNat % b : Nat) : Int) := by
  rw [Int.natCast_emod, Int.toNat_of_nonneg ha]
 rw [this]
theorem o_maxN {a b : Nat} {tys : Array TypeId} (hx : ev fr x = .int .i64 (a : Int)) (hy : ev fr y = .int .i64 (b : Int)) : xop P fr w ⟨d, .call { callee := .builtin .max, args := #[x, y], argTypes := tys }, t, ps, af, g⟩ = .ok (.value (.int .i64 ((max a b : Nat) : Int))) w := by
 have : (if (a : Int) < b then (b : Int) else a) = ((max a b : Nat) : Int) := by split <;> omega
 simp [xop, execOp, resolve, invoke, builtin, hx, hy, Builtin.max_, Builtin.max2]
 omega
end
def encJ (x : Int) : List Value := [.int .i64 x]
theorem ZH : EncOk encJ 1 := ⟨by decide, fun _ => rfl, fun x u hu => by simp [encJ] at hu; subst hu; rfl⟩
def ofW (l : List Int) : W64 := l.foldl (fun x i => x ||| oneW i.toNat) 0
theorem ofW_succ {l : List Int} {k : Nat} (h : k < l.length) : ofW (l.take (k + 1)) = ofW (l.take k) ||| oneW (l.getD k 0).toNat := by
 unfold ofW
 rw [List.take_succ_eq_append_getElem h, List.foldl_append]
 simp [List.getD, h]
structure TopI (l : List Int) (k : Nat) (t : Int) : Prop where
 le : k ≤ l.length
 lo : -1 ≤ t
 hi : t < 64
 ge : ∀ i, i < k → l.getD i 0 ≤ t
theorem TopI.start (l : List Int) : TopI l 0 (-1) := ⟨Nat.zero_le _, Int.le_refl _, by decide, fun i hi => by omega⟩
theorem TopI.next {l : List Int} {k : Nat} {t : Int} (h : TopI l k t) (hk : k < l.length) (hl : l.getD k 0 < 64) : TopI l (k + 1) (if t < l.getD k 0 then l.getD k 0 else t) := by
 refine ⟨hk, ?_, ?_, ?_⟩
 ·have := h.lo; split <;> omega
 ·have := h.hi; split <;> omega
 ·intro i hi
  rcases Nat.lt_or_ge i k with h1 | h1
  ·have := h.ge i h1; split <;> omega
  ·have : i = k := by omega
   subst this
   split <;> omega
theorem ofW_none {l : List Int} {t : Int} (h : TopI l l.length t) (ht : t < 0) (hl : ∀ i ∈ l, 0 ≤ i) : l = [] := by
 cases l with
 | nil => rfl
 | cons a r =>
  have h1 := h.ge 0 (by simp)
  have h2 := hl a (by simp)
  simp at h1
  omega
theorem trim_len {ws : List W64} {n : Nat} (hw : ws.length ≤ 1) (hn : n ≤ ws.length) (hz : ∀ i, n ≤ i → ws.getD i 0 = 0) (he : n = 0 ∨ ws.getD (n - 1) 0 ≠ 0) : n = (wl (ws.getD 0 0)).length ∧ ws.take n = wl (ws.getD 0 0) := by
 match ws, hw with
 | [], _ =>
  have : n = 0 := by simpa using hn
  subst this
  exact ⟨rfl, rfl⟩
 | [x], _ =>
  have hn' : n ≤ 1 := by simpa using hn
  rcases he with rfl | he
  ·have := hz 0 (Nat.le_refl _)
   have hx : x = 0 := by simpa using this
   subst hx
   exact ⟨rfl, rfl⟩
  ·have h1 : n = 1 := by
    apply Classical.byContradiction
    intro h
    have : n = 0 := by omega
    subst this
    have := hz 0 (Nat.le_refl _)
    exact he (by simpa using this)
   subst h1
   have hx : x ≠ 0 := by simpa using he
   rw [show ([x] : List W64).getD 0 0 = x from rfl, JN hx]
   exact ⟨rfl, rfl⟩
theorem take_n {ws : List W64} {n : Nat} (hn : n ≤ ws.length) : (ws.take n).length = n := by rw [List.length_take]; omega
theorem take_lastW {ws : List W64} {n : Nat} (h1 : 1 ≤ n) (hn : n ≤ ws.length) : (ws.take n).getD ((ws.take n).length - 1) 0 = ws.getD (n - 1) 0 := by
 rw [take_n hn]
 simp [List.getD, List.getElem?_take, show n - 1 < n by omega]
theorem trim_yes {ws : List W64} {n : Nat} (hn : n ≤ ws.length) (h : (decide ((0 : Int) < ((ws.take n).length : Int)) && ((ws.take n).getD ((ws.take n).length - 1) 0 == 0#64)) = true) : 1 ≤ n ∧ ws.getD (n - 1) 0 = 0 := by
 rw [Bool.and_eq_true] at h
 have h1 := of_decide_eq_true h.1
 have h2 := take_n hn
 have h3 : 1 ≤ n := by omega
 refine ⟨h3, ?_⟩
 have := h.2
 rw [take_lastW h3 hn] at this
 simpa using this
theorem trim_no {ws : List W64} {n : Nat} (hn : n ≤ ws.length) (h : (decide ((0 : Int) < ((ws.take n).length : Int)) && ((ws.take n).getD ((ws.take n).length - 1) 0 == 0#64)) = false) : n = 0 ∨ ws.getD (n - 1) 0 ≠ 0 := by
 rw [Bool.and_eq_false_iff] at h
 have h2 := take_n hn
 rcases h with h | h
 ·have := of_decide_eq_false h; left; omega
 ·rcases Nat.eq_zero_or_pos n with h0 | h0
  ·exact .inl h0
  ·right
   rw [take_lastW h0 hn] at h
   simpa using h
theorem trim_next {ws : List W64} {n : Nat} (h1 : 1 ≤ n) (h : ws.getD (n - 1) 0 = 0) (hz : ∀ i, n ≤ i → ws.getD i 0 = 0) : ∀ i, n - 1 ≤ i → ws.getD i 0 = 0 := by
 intro i hi
 rcases Nat.lt_or_ge i n with h2 | h2
 ·have : i = n - 1 := by omega
  rw [this]; exact h
 ·exact hz i h2
theorem Vh {F : Nat → Prop} {w : World} {a : Option Addr} {c : Nat} {ws : List W64} (h : Sl encU 1 F w a c ws) (hw : ws.length ≤ 1) : Sl encU 1 F w a c (wl (ws.getD 0 0)) := by
 match ws, hw with
 | [], _ => exact h
 | [x], _ =>
  rcases Z2 x with ⟨h1, h2⟩ | ⟨h1, h2⟩
  ·show Sl encU 1 F w a c (wl x)
   rw [h2]; exact h.take 0
  ·show Sl encU 1 F w a c (wl x)
   rw [h2]; exact h
section
variable {P : Program} {fr : Fr} {w : World} {d : Option Nat} {t : TypeId} {ps : String} {af : Array Edge} {g : Option (Nat × Bool)} {x y z : Operand} {T U : TypeId}
theorem o_quoZ {a : Int} {b : Nat} (hx : ev fr x = .int .i64 a) (hy : ev fr y = .int .i64 (b : Int)) (ha : 0 ≤ a) (hb : a < b) (hr : I64 a) : xop P fr w ⟨d, .binOp .quo T x y U, t, ps, af, g⟩ = .ok (.value (.int .i64 0)) w := by
 rw [o_quo hx hy ha (by omega) hr, Int.ediv_eq_zero_of_lt ha hb]
theorem o_maxI {a b : Int} {tys : Array TypeId} (hx : ev fr x = .int .i64 a) (hy : ev fr y = .int .i64 b) : xop P fr w ⟨d, .call { callee := .builtin .max, args := #[x, y], argTypes := tys }, t, ps, af, g⟩ = .ok (.value (.int .i64 (if a < b then b else a))) w := by
 simp [xop, execOp, resolve, invoke, builtin, hx, hy, Builtin.max_, Builtin.max2]
end
theorem o_maxTo {P : Program} {fr : Fr} {w : World} {d : Option Nat} {t : TypeId} {ps : String} {af : Array Edge} {g : Option (Nat × Bool)} {x y : Operand} {a b m : Nat} {tys : Array TypeId} (hx : ev fr x = .int .i64 (a : Int)) (hy : ev fr y = .int .i64 (b : Int)) (h : max a b = m) : xop P fr w ⟨d, .call { callee := .builtin .max, args := #[x, y], argTypes := tys }, t, ps, af, g⟩ = .ok (.value (.int .i64 (m : Int))) w := by
 rw [o_maxN hx hy, h]
theorem with_yes {x : W64} {i : Nat} (hi : i < 64) (h : ((decide ((i : Int) < 0) || decide ((4095 : Int) < (i : Int))) || hasW x (i : Int)) = true) : x.getLsbD i = true := by
 rw [Vg] at h
 have h1 : decide ((i : Int) < 0) = false := decide_eq_false (by omega)
 have h2 : decide ((4095 : Int) < (i : Int)) = false := decide_eq_false (by omega)
 simpa [h1, h2] using h
theorem with_len {x : W64} {i : Nat} (hi : i < 64) : (wl (x ||| oneW i)).length = 1 := by rw [JN (with_ne hi)]; rfl
theorem with_max {x : W64} {i : Nat} (hi : i < 64) : max (wl x).length 1 = (wl (x ||| oneW i)).length := by
 have := Ja x
 rw [with_len hi]; omega
theorem wl_pad (x : W64) : wl x ++ ([0] : List W64).drop (wl x).length = [x] := by
 rcases Z2 x with ⟨h, e⟩ | ⟨h, e⟩
 ·rw [e, h]; rfl
 ·rw [e]; rfl
theorem meets_yes {x y : W64} {k : Nat} (hk : k < min (wl x).length (wl y).length) : (wl x).getD k 0 &&& (wl y).getD k 0 = x &&& y := by
 have h1 := Ja x
 have h2 := Ja y
 have : k = 0 := by omega
 subst this
 rw [Jj, Jj]
theorem meets_end {x y : W64} {k : Nat} (hk : k ≤ min (wl x).length (wl y).length) (hge : ¬ (k : Int) < ((min (wl x).length (wl y).length : Nat) : Int)) (h : 1 ≤ k → x &&& y = 0) : x &&& y = 0 := by
 by_cases h0 : 1 ≤ k
 ·exact h h0
 ·have hm : min (wl x).length (wl y).length = 0 := by omega
  rcases Z2 x with ⟨e, _⟩ | ⟨_, e⟩
  ·rw [e]; simp
  ·rcases Z2 y with ⟨e', _⟩ | ⟨_, e'⟩
   ·rw [e']; simp
   ·rw [e, e'] at hm; simp at hm
def subW (x y : W64) : Bool := (x &&& ~~~y) == 0
theorem sub_yes {x y : W64} {k : Nat} (hk : k < (wl x).length) : (wl x).getD k 0 &&& ~~~((wl y).getD k 0) = x &&& ~~~y := by
 have h1 := Ja x
 have : k = 0 := by omega
 subst this
 rw [Jj, Jj]
theorem sub_end {x y : W64} {k : Nat} (hge : ¬ (k : Int) < ((wl x).length : Int)) (h : 1 ≤ k → x &&& ~~~y = 0) : subW x y = true := by
 unfold subW
 by_cases h0 : 1 ≤ k
 ·rw [h h0]; simp
 ·rcases Z2 x with ⟨e, _⟩ | ⟨_, e⟩
  ·rw [e]; simp
  ·rw [e] at hge; simp at hge; omega
theorem sub_iff {x y : W64} : subW x y = true ↔ ∀ i, x.getLsbD i = true → y.getLsbD i = true := by
 unfold subW
 rw [beq_iff_eq]
 constructor
 ·intro h i hx
  have hi : i < 64 := by
   apply Classical.byContradiction
   intro hn
   rw [BitVec.getLsbD_of_ge _ _ (by omega)] at hx; cases hx
  have := congrArg (fun z : W64 => z.getLsbD i) h
  simp [hx, hi] at this
  exact this
 ·intro h
  apply BitVec.eq_of_getLsbD_eq
  intro i hi
  cases hx : x.getLsbD i with
  | false => simp [hx]
  | true => simp [hx, h i hx]
/-! Union, cut, difference of one. -/
def orL (x y : W64) (k : Nat) : List W64 := if k = 0 then List.replicate (wl (x ||| y)).length 0 else wl (x ||| y)
theorem or_zero {x y : W64} : x ||| y = 0 ↔ x = 0 ∧ y = 0 := by
 constructor
 ·intro h
  constructor
  ·apply BitVec.eq_of_getLsbD_eq
   intro i hi
   have := congrArg (fun z : W64 => z.getLsbD i) h
   simp at this ⊢; exact this.1
  ·apply BitVec.eq_of_getLsbD_eq
   intro i hi
   have := congrArg (fun z : W64 => z.getLsbD i) h
   simp at this ⊢; exact this.2
 ·rintro ⟨rfl, rfl⟩; rfl
theorem or_max (x y : W64) : max (wl x).length (wl y).length = (wl (x ||| y)).length := by
 rcases Z2 x with ⟨h, e⟩ | ⟨h, e⟩ <;> rcases Z2 y with ⟨h', e'⟩ | ⟨h', e'⟩
 ·rw [h, h']; rfl
 ·rw [JN (fun q => h' (or_zero.1 q).2), e, e']; rfl
 ·rw [JN (fun q => h (or_zero.1 q).1), e, e']; rfl
 ·rw [JN (fun q => h (or_zero.1 q).1), e, e']; rfl
theorem or_start {x y : W64} (h : (0 : Int) < ((wl (x ||| y)).length : Int)) : orL x y 0 = [0] ∧ wl (x ||| y) = [x ||| y] := by
 rcases Z2 (x ||| y) with ⟨h', e⟩ | ⟨h', e⟩
 ·rw [e] at h; simp at h
 ·exact ⟨by rw [orL, if_pos rfl, e]; rfl, e⟩
theorem or_one {x y : W64} (e : wl (x ||| y) = [x ||| y]) : orL x y 1 = ([0] : List W64).set 0 ((wl x).getD 0 0 ||| (wl y).getD 0 0) := by
 rw [orL, if_neg (by decide), e, Jj, Jj]; rfl
theorem or_end {x y : W64} {k : Nat} (h : ¬ (k : Int) < ((wl (x ||| y)).length : Int)) : orL x y k = wl (x ||| y) := by
 unfold orL
 split
 ·rename_i h0
  subst h0
  have : (wl (x ||| y)).length = 0 := by omega
  rw [this, List.eq_nil_of_length_eq_zero this]; rfl
 ·rfl
def andW (x y : W64) : List W64 := if (wl x).length = 0 ∨ (wl y).length = 0 then [] else [x &&& y]
def andLs (x y : W64) (k : Nat) : List W64 := if k = 0 then List.replicate (andW x y).length 0 else andW x y
theorem and_min (x y : W64) : min (wl x).length (wl y).length = (andW x y).length := by
 have h1 := Ja x
 have h2 := Ja y
 unfold andW
 split
 ·rw [List.length_nil]; omega
 ·rw [List.length_singleton]; omega
theorem Vi (x y : W64) : (andW x y).length ≤ 1 := by unfold andW; split <;> simp
theorem and_start {x y : W64} (h : (0 : Int) < ((andW x y).length : Int)) : andLs x y 0 = [0] ∧ andW x y = [x &&& y] ∧ 0 < (wl x).length ∧ 0 < (wl y).length := by
 by_cases h0 : (wl x).length = 0 ∨ (wl y).length = 0
 ·rw [andW, if_pos h0] at h; simp at h
 ·have e : andW x y = [x &&& y] := by rw [andW, if_neg h0]
  exact ⟨by rw [andLs, if_pos rfl, e]; rfl, e, by omega, by omega⟩
theorem and_one {x y : W64} (e : andW x y = [x &&& y]) : andLs x y 1 = ([0] : List W64).set 0 ((wl x).getD 0 0 &&& (wl y).getD 0 0) := by
 rw [andLs, if_neg (by decide), e, Jj, Jj]; rfl
theorem and_end {x y : W64} {k : Nat} (h : ¬ (k : Int) < ((andW x y).length : Int)) : andLs x y k = andW x y := by
 unfold andLs
 split
 ·rename_i h0
  subst h0
  have : (andW x y).length = 0 := by omega
  rw [this, List.eq_nil_of_length_eq_zero this]; rfl
 ·rfl
theorem and_get (x y : W64) : (andW x y).getD 0 0 = x &&& y := by
 unfold andW
 split
 ·rename_i h
  rcases h with h | h
  ·rcases Z2 x with ⟨e, _⟩ | ⟨_, e⟩
   ·rw [e]; simp
   ·rw [e] at h; simp at h
  ·rcases Z2 y with ⟨e, _⟩ | ⟨_, e⟩
   ·rw [e]; simp
   ·rw [e] at h; simp at h
 ·rfl
theorem wl_inj {x y : W64} (h : wl x = wl y) : x = y := by
 have h1 := Jj x
 have h2 := Jj y
 rw [h] at h1
 exact h1.symm.trans h2
theorem eq_len {x y : W64} (h : (((wl x).length : Int) != ((wl y).length : Int)) = true) : (x == y) = false := by
 rw [beq_eq_false_iff_ne]
 rintro rfl
 simp at h
theorem eq_ne {x y : W64} {k : Nat} (hk : k < (wl x).length) (h : ((wl x).getD k 0 != (wl y).getD k 0) = true) : (x == y) = false := by
 rw [beq_eq_false_iff_ne]
 rintro rfl
 simp at h
theorem eq_end {x y : W64} {k : Nat} (hl : (((wl x).length : Int) != ((wl y).length : Int)) = false) (hge : ¬ (k : Int) < ((wl x).length : Int)) (h : 1 ≤ k → x = y) : (x == y) = true := by
 rw [beq_iff_eq]
 by_cases h0 : 1 ≤ k
 ·exact h h0
 ·have h1 : (wl x).length = 0 := by omega
  have h2 : (wl y).length = 0 := by simp at hl; omega
  exact wl_inj ((List.eq_nil_of_length_eq_zero h1).trans (List.eq_nil_of_length_eq_zero h2).symm)
theorem eq_step {x y : W64} {k : Nat} (hk : k < (wl x).length) (h : ((wl x).getD k 0 != (wl y).getD k 0) = false) : x = y := by
 have h1 := Ja x
 have : k = 0 := by omega
 subst this
 rw [Jj, Jj] at h
 simpa using h
theorem empty_eq (x : W64) : (((wl x).length : Int) == 0) = (x == 0) := by
 rcases Z2 x with ⟨h, e⟩ | ⟨h, e⟩
 ·rw [h]; rfl
 ·rw [e]
  have : (x == 0) = false := by simpa using h
  rw [this]; rfl
/-! The members, ascending. -/
def memW (x : W64) (k : Nat) : List Int := ((List.range k).filter fun i => x.getLsbD i).map fun (i : Nat) => (i : Int)
theorem mem_yes {x : W64} {k : Nat} (h : x.getLsbD k = true) : memW x (k + 1) = memW x k ++ [(k : Int)] := by
 unfold memW
 rw [List.range_succ, List.filter_append, List.map_append]; simp [h]
theorem mem_no {x : W64} {k : Nat} (h : x.getLsbD k = false) : memW x (k + 1) = memW x k := by
 unfold memW
 rw [List.range_succ, List.filter_append, List.map_append]; simp [h]
theorem memW_ok (x : W64) : ∀ p ∈ memW x 64, 0 ≤ p ∧ p < 64 := by
 intro p hp
 obtain ⟨i, hi, rfl⟩ := List.mem_map.1 hp
 have := List.mem_range.1 (List.mem_filter.1 hi).1
 omega
theorem ofW_get (l : List Int) (h : ∀ p ∈ l, 0 ≤ p ∧ p < 64) (j : Nat) : (ofW l).getLsbD j = l.any fun p => p == (j : Int) := by
 have gen : ∀ (l : List Int) (x : W64), (∀ p ∈ l, 0 ≤ p ∧ p < 64) → (l.foldl (fun x i => x ||| oneW i.toNat) x).getLsbD j = (x.getLsbD j || l.any fun p => p == (j : Int)) := by
  intro l
  induction l with
  | nil => intro x _; simp
  | cons a r ih =>
   intro x hl
   have ha := hl a (by simp)
   rw [List.foldl_cons, ih _ (fun p hp => hl p (by simp [hp])), BitVec.getLsbD_or, Z3 _ _ (by omega), List.any_cons, Bool.or_assoc]
   congr 2
   rw [Bool.eq_iff_iff]; simp; omega
 have := gen l 0 h
 unfold ofW
 rw [this]; simp
section
variable {P : Program} {fr : Fr} {w : World} {d : Option Nat} {t : TypeId} {ps : String} {af : Array Edge} {g : Option (Nat × Bool)} {x y z : Operand} {T U : TypeId}
end
end Go.Lx
/- A range over a function: what an iterator must do, and the rule for the statement. No round is left early here. Nothing of a program stands here. -/
namespace Go.Lx
open Go Go.RowKit
def Yl (P : Program) (l : Nat) (args : Array Value) (u : World) (R : Ending → World → Prop) : Prop :=
 ∀ N, ∃ fn tmps assign body, (Instr.yield l args).run P u = .ok (.round l fn tmps assign body) u ∧ RoundIn (Fw none) N P l fn tmps assign body u R
def Iter {α : Type} (P : Program) (gf : Nat) (lb : Array Value) (D : Nat → Prop) (w0 : World) (xs : List α) (enc : α → Value) : Prop :=
 ∀ (l : Nat) (J : Nat → World → Prop) (u : World), Ext False w0 u → (∀ i a b, J i a → Ext False a b → J i b) →
  (∀ i x a, xs[i]? = some x → J i a → Yl P l #[enc x] a fun e b => e = .returned (.bool true) ∧ J (i + 1) b ∧ Bel False D a b) →
  J 0 u → Ok P gf (#[.func (.yield l) #[] #[]] ++ lb) u fun _ b => J xs.length b
def Fr.mark (fr : Fr) (b : Nat) : Fr := ⟨fr.sl, mkD b :: fr.ds⟩
def Fr.bare (fr : Fr) : Fr := ⟨fr.sl, []⟩
theorem Bel.putObj {w : World} {b : Nat} {o : Obj} {D : Nat → Prop} (hD : D b) : Bel False D w (w.putObj b o) :=
 ⟨rfl, rfl, rfl, by simp [World.putObj], fun c _ hc => World.putObj_heap_other (fun e => hc (e ▸ hD)), False.elim⟩
theorem shut_bel : ∀ (l : List Nat) (w : World), Bel False (fun g => g ∈ l) w (shut w l)
 | [], w => Bel.refl _ _
 | b :: r, w => (Bel.putObj (o := .deferred none) (D := fun g => g ∈ b :: r) (List.mem_cons_self)).tr (shut_bel r _) (fun _ _ h => h) (fun _ _ h => List.mem_cons_of_mem _ h)
theorem Mks.kp {γ : Prop} {D : Nat → Prop} {w w' : World} : ∀ {l : List Nat}, Mks w l → Bel γ D w w' → (∀ b, b ∈ l → b < w.heap.size → ¬ D b) → Mks w' l
 | [], _, _, _ => trivial
 | b :: r, h, x, hd => ⟨h.1, (x.block b (Array.getElem?_eq_some_iff.1 h.2.1).1 (hd b List.mem_cons_self (Array.getElem?_eq_some_iff.1 h.2.1).1)).trans h.2.1, Mks.kp h.2.2 x (fun c hc => hd c (List.mem_cons_of_mem _ hc))⟩
theorem Mks.lt {w : World} : ∀ {l : List Nat}, Mks w l → ∀ b, b ∈ l → b < w.heap.size
 | [], _, b, hb => by simp at hb
 | c :: r, h, b, hb => by
  rcases List.mem_cons.1 hb with rfl | hb
  ·exact (Array.getElem?_eq_some_iff.1 h.2.1).1
  ·exact Mks.lt h.2.2 b hb
theorem Mks.ext {γ : Prop} {w w' : World} {l : List Nat} (h : Mks w l) (x : Ext γ w w') : Mks w' l := h.kp x fun _ _ _ => id
theorem Ext.alloc2 (w : World) (o o' : Obj) : Ext False w ((w.alloc o).alloc o') := (Ext.alloc w o).ex (Ext.alloc (w.alloc o) o')
theorem W_range {α : Type} {P : Program} {n : Nat} {K : Fr → World → Prop} {E : Nat → Fr → World → Prop} {R : Fr → World → Prop} {fr : Fr} {w : World} {g : Operand} {p : Nat} {assign body : Code} {gf : Nat} {lb : Array Value}
  (xs : List α) (enc : α → Value) (D : Nat → Prop) (I : Nat → World → Prop) (hp : dstOk n (some p) = true)
  (hg : ev fr g = .func (.func gf) #[] lb) (eg : ∀ args w, (callFunc gf args).run P w = .ok (.enter gf args) w)
  (it : Iter P gf lb (fun b => D b ∨ w.heap.size ≤ b) w xs enc) (hD : ∀ b, D b → b < w.heap.size ∨ w.heap.size + 2 ≤ b)
  (hI : ∀ i a b, w.heap.size + 2 ≤ a.heap.size → I i a → Bel False (fun b => b = w.heap.size + 1) a b → I i b)
  (h0 : ∀ a, Ext False w a → a.heap.size = w.heap.size + 2 → I 0 a)
  (hb : ∀ l i x a, xs[i]? = some x → w.heap.size + 2 ≤ a.heap.size → I i a →
   W (some l) P n assign (fun f1 a1 => Ext False a a1 ∧ ∀ a2, Bel False (fun b => b = w.heap.size + 1) a1 a2 → W (some l) P n body (fun _ b => Bel False D a2 b ∧ I (i + 1) b) (fun _ _ _ => False) (fun _ _ => False) f1 a2) (fun _ _ _ => False) (fun _ _ => False) (fr.bare.set p (enc x)) a)
  (hk : ∀ a, w.heap.size + 2 ≤ a.heap.size → I xs.length a → a.heap[w.heap.size]? = some (.deferred (some [])) → K (fr.mark w.heap.size) a) :
  W none P n (.rangeFunc g #[p] assign body) K E R fr w := by
 intro N a ha
 have hev : a.eval g = .func (.func gf) #[] lb := by rw [ev_eq ha]; exact hg
 refine wpIn_rangeFunc ?_
 intro fn hfn
 obtain ⟨rec, hrec⟩ : ∃ rec : LoopState → Option Code → Loop, rec = fun st pe => { state := st, pending := pe, fn, tmps := a.tmps, params := #[p], assign, body, defers := w.heap.size } := ⟨_, rfl⟩
 obtain ⟨w1, hw1⟩ : ∃ w1, (w.alloc (.deferred (some []))).alloc (.loop (rec .ready none)) = w1 := ⟨_, rfl⟩
 have hx1 : Ext False w w1 := by rw [← hw1]; exact Ext.alloc2 _ _ _
 have hs1 : w1.heap.size = w.heap.size + 2 := by rw [← hw1]; simp only [World.size_alloc]
 have hL1 : w1.heap[w.heap.size + 1]? = some (.loop (rec .ready none)) := by rw [← hw1]; have := World.alloc_heap_new (w.alloc (.deferred (some []))) (.loop (rec .ready none)); rwa [World.size_alloc] at this
 have hD1 : w1.heap[w.heap.size]? = some (.deferred (some [])) := by rw [← hw1]; exact ((Ext.alloc (β := False) (w.alloc (.deferred (some []))) (.loop (rec .ready none))).block _ (by simp only [World.size_alloc]; omega) id).trans (World.alloc_heap_new w _)
 refine ⟨w.heap.size + 1, [mkD w.heap.size], w1, { target := .fn (.func gf) lb, args := #[.func (.yield (w.heap.size + 1)) #[] #[]] }, w1, gf,
  #[.func (.yield (w.heap.size + 1)) #[] #[]] ++ lb, w1, ?_, ?_, fun _ _ => trivial, ?_, fun e => (by cases e), ?_⟩
 ·rw [← hw1, hrec]; exact run_enterLoop_outer _ _ _ _ _
 ·simp only [resolve, hev]
  simp [go_sem, Deferred.ofValue]
 ·simp [invoke, go_sem, eg]
 ·have key := it (w.heap.size + 1)
   (fun i a => I i a ∧ a.heap[w.heap.size + 1]? = some (.loop (rec .ready none)) ∧ a.heap[w.heap.size]? = some (.deferred (some [])))
   w1 hx1 (fun i a b ⟨h1, h2, h3⟩ x => by
    have l2 := (Array.getElem?_eq_some_iff.1 h2).1
    have l3 := (Array.getElem?_eq_some_iff.1 h3).1
    exact ⟨hI i a b (by omega) h1 (x.mono fun _ _ h => h.elim), (x.block _ l2 id).trans h2, (x.block _ l3 id).trans h3⟩) ?_ ⟨h0 w1 hx1 hs1, hL1, hD1⟩
  ·refine CallsIn.mono (J5 (N := N - 1) key) ?_
   rintro e b ⟨v, rfl, h1, h2, h3⟩
   have l2 := (Array.getElem?_eq_some_iff.1 h2).1
   refine ⟨none, b.putObj (w.heap.size + 1) (.loop { rec .ready none with state := .exhausted }), ?_, ?_⟩
   ·have := run_endLoop (P := P) h2 (by rw [hrec]; simp)
    rw [hrec] at this ⊢
    exact this
   ·refine ⟨fr.mark w.heap.size, ⟨ha.sz, ?_⟩, hk _ (by simp [World.putObj]; omega) (hI _ _ _ (by omega) h1 (Bel.putObj rfl)) ((World.putObj_heap_other (by omega)).trans h3)⟩
    rw [← ha.fr]; rfl
  ·rintro i x u hx ⟨h1, h2, h3⟩ M
   have l2 := (Array.getElem?_eq_some_iff.1 h2).1
   have l3 := (Array.getElem?_eq_some_iff.1 h3).1
   have hy := run_yield (P := P) (args := #[enc x]) h2 (by rw [hrec]; rfl)
   rw [hrec] at hy
   refine ⟨fn, _, assign, body, hy, roundIn_of_wpIn hfn ?_⟩
   have his : Is { tmps := ((#[p] : Array Tmp).zip #[enc x]).foldl (fun tmps (t, a) => tmps.setIfInBounds t a) a.tmps, defers := [] } n (fr.bare.set p (enc x)) := by
    have hb0 : Is { a with defers := [] } n fr.bare := ⟨ha.sz, by rw [← ha.fr]; rfl⟩
    have := J4 hb0 hp (enc x)
    simpa [Act.put, Fr.put] using this
   refine wpIn_mono (hb (w.heap.size + 1) i x u hx (by omega) h1 M _ his) ?_
   intro e a1 u1 q
   cases e <;> simp only [post, Exit.then] at q ⊢
   ·obtain ⟨f1, his1, hx1', hbody⟩ := q
    have h2' : u1.heap[w.heap.size + 1]? = some (.loop (rec .ready none)) := (hx1'.block _ l2 id).trans h2
    have h3' : u1.heap[w.heap.size]? = some (.deferred (some [])) := (hx1'.block _ l3 id).trans h3
    have l2' := (Array.getElem?_eq_some_iff.1 h2').1
    refine ⟨_, run_beginRound h2' (by rw [hrec]), ?_⟩
    have hl2 : (u1.putObj (w.heap.size + 1) (.loop { rec .ready none with state := .busy })).heap[w.heap.size + 1]? = some (.loop { rec .ready none with state := .busy }) := World.putObj_heap_same l2'
    have hk2 : (u1.putObj (w.heap.size + 1) (.loop { rec .ready none with state := .busy })).heap[w.heap.size]? = some (.deferred (some [])) := (World.putObj_heap_other (by omega)).trans h3'
    refine wpIn_mono (hbody _ (Bel.putObj rfl) M a1 his1) ?_
    intro e2 a3 u3 q
    cases e2 <;> simp only [post, roundPost] at q ⊢
    ·obtain ⟨f3, _, hbl, hi3⟩ := q
     have hl3 : u3.heap[w.heap.size + 1]? = some (.loop { rec .ready none with state := .busy }) := (hbl.block _ (Array.getElem?_eq_some_iff.1 hl2).1 (fun h => by have := hD _ h; omega)).trans hl2
     have hk3 : u3.heap[w.heap.size]? = some (.deferred (some [])) := (hbl.block _ (Array.getElem?_eq_some_iff.1 hk2).1 (fun h => by have := hD _ h; omega)).trans hk2
     have l4 := (Array.getElem?_eq_some_iff.1 hl3).1
     have hend := run_endRound (P := P) none hl3
     refine ⟨_, _, hend, rfl, ⟨hI _ _ _ (by omega) hi3 (Bel.putObj rfl), ?_, (World.putObj_heap_other (by omega)).trans hk3⟩, ?_⟩
     ·rw [World.putObj_heap_same l4, hrec]; rfl
     ·have e1 : Bel False (fun b => D b ∨ w.heap.size ≤ b) u u1 := hx1'.mono fun _ _ h => h.elim
      have e2 : Bel False (fun b => D b ∨ w.heap.size ≤ b) u1 (u1.putObj (w.heap.size + 1) (.loop { rec .ready none with state := .busy })) := Bel.putObj (.inr (by omega))
      have e3 : Bel False (fun b => D b ∨ w.heap.size ≤ b) (u1.putObj (w.heap.size + 1) (.loop { rec .ready none with state := .busy })) u3 := hbl.mono fun _ _ h => .inl h
      exact ((e1.same e2).same e3).same (Bel.putObj (.inr (by omega)))
    all_goals exact (by obtain ⟨_, _, q⟩ := q; exact q.elim)
   all_goals exact (by obtain ⟨_, _, q⟩ := q; exact q.elim)
def Fr.wds (fr : Fr) (L : List Deferred) : Fr := ⟨fr.sl, L⟩
theorem W_forD {rd : Option Nat} {P : Program} {n : Nat} {c : Code} {K : Fr → World → Prop} {E : Nat → Fr → World → Prop} {Rt : Fr → World → Prop} {fr : Fr} {w : World} {α : Type}
  (R : List (Nat × Nat)) (S : α → List (Nat × Value)) (Dm : α → List Nat) (I : α → World → Prop) (mu : α → Nat) (x0 : α) (hS : slotsOk fr (S x0)) (hD : fr.ds = (Dm x0).map mkD) (h0 : I x0 w)
  (hr : ∀ x base w, I x w → W rd P n c (fun fr' w' => ∃ y, slotsOk fr' (S y) ∧ Off R (fr.wds fr'.ds) fr' ∧ fr'.ds = (Dm y).map mkD ∧ I y w' ∧ mu y < mu x) E Rt (setL ((mix R fr base).wds ((Dm x).map mkD)) (S x)) w) :
  W rd P n (.loop c) K E Rt fr w := by
 refine W_loop (fun x fr' w' => slotsOk fr' (S x) ∧ Off R (fr.wds fr'.ds) fr' ∧ fr'.ds = (Dm x).map mkD ∧ I x w') mu x0 ⟨hS, ⟨rfl, fun _ _ => rfl⟩, hD, h0⟩ ?_
 rintro x fr' w' ⟨h1, h2, hd, h3⟩
 have := hr x fr' w' h3
 have e : (mix R fr fr').wds ((Dm x).map mkD) = fr' := by
  refine Fr.ext' (fun j => ?_) hd.symm
  simp only [Fr.wds, mix]
  cases hj : inR R j with
  | true => rfl
  | false => rw [cond_false]; exact (h2.2 j hj).symm
 rw [e, setL_same h1] at this
 refine this.mono ?_ (fun _ _ _ h => h) (fun _ _ h => h)
 rintro fr2 w2 ⟨y, h1, h2, hd, h3, h4⟩
 exact ⟨y, ⟨h1, h2, hd, h3⟩, h4⟩
def OffS (R : List (Nat × Nat)) (fr g : Fr) : Prop := ∀ j, inR R j = false → g j = fr j
theorem offS_of {R : List (Nat × Nat)} {fr g : Fr} (h : OffS R fr g) : Off R (fr.wds g.ds) g := ⟨rfl, h⟩
theorem offS_refl (R : List (Nat × Nat)) (fr : Fr) : OffS R fr fr := fun _ _ => rfl
theorem offS_put {R : List (Nat × Nat)} {fr g : Fr} {d : Nat} {v : Value} (hd : inR R d = true) (h : OffS R fr g) : OffS R fr (g.put (some d) v) := fun j hj => by
 show (g.set d v) j = _
 rw [JF (by intro e; subst e; rw [hd] at hj; cases hj)]
 exact h j hj
theorem offS_putN {R : List (Nat × Nat)} {fr g : Fr} {v : Value} (h : OffS R fr g) : OffS R fr (g.put none v) := h
theorem offS_mark {R : List (Nat × Nat)} {fr g : Fr} {b : Nat} (h : OffS R fr g) : OffS R fr (g.mark b) := h
theorem offS_wds {R : List (Nat × Nat)} {fr g : Fr} {L : List Deferred} (h : OffS R fr g) : OffS R fr (g.wds L) := h
theorem offS_mix {R R' : List (Nat × Nat)} {fr fr' base : Fr} (hs : subR R' R = true) (h : OffS R fr fr') : OffS R fr (mix R' fr' base) := fun j hj => by
 have : inR R' j = false := by
  cases hx : inR R' j with
  | false => rfl
  | true => rw [inR_sub hs hx] at hj; cases hj
 simp only [mix, this, cond_false]
 exact h j hj
theorem offS_mixR {R : List (Nat × Nat)} {fr base : Fr} : OffS R fr (mix R fr base) := fun j hj => by simp only [mix, hj, cond_false]
theorem offS_setL {R : List (Nat × Nat)} {fr g : Fr} : ∀ {L : List (Nat × Value)}, (L.all fun p => inR R p.1) = true → OffS R fr g → OffS R fr (setL g L)
 | [], _, h => h
 | p :: r, hL, h => by
  rw [List.all_cons, Bool.and_eq_true] at hL
  exact offS_put hL.1 (offS_setL hL.2 h)
end Go.Lx
/- The members of a word, from the least on; the library's count of trailing zeros; a call of yield. -/
namespace Go.Lx
open Go Go.RowKit
def ctzW (x : W64) : Nat := Lib.ctz 64 x.toNat
theorem Vj {x : W64} (h : x ≠ 0) : ∃ m, x.toNat = 2 ^ ctzW x * (2 * m + 1) ∧ ctzW x < 64 := by
 have h0 : x.toNat ≠ 0 := fun e => h (by apply BitVec.eq_of_toNat_eq; simpa using e)
 have := Lib.ctzFrom_spec 64 x.toNat (by omega) x.isLt
 have e : ctzW x = Lib.ctzFrom 64 x.toNat := by simp [ctzW, Lib.ctz, h0]
 rw [e]; exact this
theorem odd_bit (m i : Nat) : (2 * m + 1).testBit i = if i = 0 then true else m.testBit (i - 1) := by
 cases i with
 | zero => simp [Nat.testBit_zero]
 | succ i => simp [Nat.testBit_succ]; congr 1; omega
theorem even_bit (m i : Nat) : (2 * m).testBit i = if i = 0 then false else m.testBit (i - 1) := by
 cases i with
 | zero => simp [Nat.testBit_zero]
 | succ i => simp [Nat.testBit_succ]
theorem ctz_bit {x : W64} (h : x ≠ 0) (i : Nat) : x.getLsbD i = if i < ctzW x then false else if i = ctzW x then true else x.getLsbD i := by
 obtain ⟨m, hm, hk⟩ := Vj h
 have e : x.getLsbD i = x.toNat.testBit i := rfl
 by_cases h1 : i < ctzW x
 ·rw [if_pos h1, e, hm]
  have := Nat.testBit_two_pow_mul_add (2 * m + 1) (b := 0) (i := ctzW x) (by exact Nat.two_pow_pos _) i
  rw [Nat.add_zero] at this
  rw [this, if_pos h1]; simp
 ·rw [if_neg h1]
  by_cases h2 : i = ctzW x
  ·rw [if_pos h2, e, hm]
   have := Nat.testBit_two_pow_mul_add (2 * m + 1) (b := 0) (i := ctzW x) (by exact Nat.two_pow_pos _) i
   rw [Nat.add_zero] at this
   rw [this, if_neg h1, odd_bit, if_pos (by omega)]
  ·rw [if_neg h2]
theorem clear_bit {x : W64} (h : x ≠ 0) (i : Nat) : (x &&& (x - 1#64)).getLsbD i = (x.getLsbD i && !decide (i = ctzW x)) := by
 obtain ⟨m, hm, hk⟩ := Vj h
 have hp : 0 < 2 ^ ctzW x := Nat.two_pow_pos _
 have h0 : 1 ≤ x.toNat := by rw [hm]; exact Nat.mul_pos hp (by omega)
 have e1 : (x - 1#64).toNat = 2 ^ ctzW x * (2 * m) + (2 ^ ctzW x - 1) := by
  have hlt := x.isLt
  rw [BitVec.toNat_sub]
  simp only [BitVec.toNat_ofNat, Nat.reducePow, Nat.reduceMod, Nat.reduceSub]
  have e2 : x.toNat = 2 ^ ctzW x * (2 * m) + 2 ^ ctzW x := by rw [hm]; exact Nat.mul_succ _ _
  omega
 rw [BitVec.getLsbD_and]
 have ex : x.getLsbD i = x.toNat.testBit i := rfl
 have ey : (x - 1#64).getLsbD i = (x - 1#64).toNat.testBit i := rfl
 have a1 := Nat.testBit_two_pow_mul_add (2 * m + 1) (b := 0) (i := ctzW x) hp i
 rw [Nat.add_zero, ← hm] at a1
 have a2 := Nat.testBit_two_pow_mul_add (2 * m) (b := 2 ^ ctzW x - 1) (i := ctzW x) (by omega) i
 rw [ex, ey, e1, a1, a2]
 by_cases h1 : i < ctzW x
 ·simp [h1]
 ·rw [if_neg h1, if_neg h1, odd_bit, even_bit]
  by_cases h2 : i = ctzW x
  ·subst h2; simp
  ·have : i - ctzW x ≠ 0 := by omega
   simp [this, h2]
theorem mem_step {x : W64} (h : x ≠ 0) (k : Nat) : memW x k = (if ctzW x < k then (ctzW x : Int) :: memW (x &&& (x - 1#64)) k else []) ∧ (k ≤ ctzW x → memW (x &&& (x - 1#64)) k = []) := by
 induction k with
 | zero => exact ⟨rfl, fun _ => rfl⟩
 | succ k ih =>
  obtain ⟨h1, h2⟩ := ih
  have hb := ctz_bit h k
  have hc := clear_bit h k
  by_cases a : k < ctzW x
  ·rw [if_pos a] at hb
   rw [hb] at hc
   rw [mem_no hb, mem_no (by simpa using hc), h1, if_neg (by omega), if_neg (by omega)]
   exact ⟨rfl, fun _ => h2 (by omega)⟩
  ·rw [if_neg a] at hb
   by_cases c : k = ctzW x
   ·rw [if_pos c] at hb
    rw [hb, c] at hc
    rw [mem_yes hb, h1, if_neg (by omega), if_pos (by omega)]
    have := mem_no (x := x &&& (x - 1#64)) (k := k) (by rw [c]; simpa using hc)
    rw [this, h2 (by omega), c]
    exact ⟨rfl, fun h => by omega⟩
   ·have hc' : (x &&& (x - 1#64)).getLsbD k = x.getLsbD k := by rw [hc]; simp [c]
    refine ⟨?_, fun h => by omega⟩
    cases hx : x.getLsbD k with
    | true => rw [mem_yes hx, mem_yes (hc'.trans hx), h1, if_pos (by omega), if_pos (by omega)]; rfl
    | false => rw [mem_no hx, mem_no (hc'.trans hx), h1, if_pos (by omega), if_pos (by omega)]
theorem mem_cons {x : W64} (h : x ≠ 0) : memW x 64 = (ctzW x : Int) :: memW (x &&& (x - 1#64)) 64 := by
 obtain ⟨m, hm, hk⟩ := Vj h
 have := (mem_step h 64).1
 rwa [if_pos hk] at this
theorem mem_zero : memW 0 64 = [] := by
 simp [memW]
def restW (x : W64) : Nat → W64
 | 0 => x
 | j + 1 => restW x j &&& (restW x j - 1#64)
theorem rest_mem (x : W64) : ∀ j, j ≤ (memW x 64).length → memW (restW x j) 64 = (memW x 64).drop j
 | 0, _ => rfl
 | j + 1, h => by
  have ih := rest_mem x j (by omega)
  have hne : restW x j ≠ 0 := by
   intro e
   rw [e, mem_zero] at ih
   have := congrArg List.length ih
   simp at this; omega
  rw [mem_cons hne] at ih
  have := congrArg List.tail ih
  simp only [List.tail_cons, List.tail_drop] at this
  exact this
theorem rest_yes {x : W64} {j : Nat} (h : j ≤ (memW x 64).length) (hn : restW x j ≠ 0) : j < (memW x 64).length ∧ (memW x 64)[j]? = some (ctzW (restW x j) : Int) := by
 have := rest_mem x j h
 rw [mem_cons hn] at this
 have hl := congrArg List.length this
 simp at hl
 refine ⟨by omega, ?_⟩
 have h2 := congrArg (fun l => l[0]?) this
 simpa using h2.symm
theorem rest_no {x : W64} {j : Nat} (h : j ≤ (memW x 64).length) (hn : restW x j = 0) : j = (memW x 64).length := by
 have := rest_mem x j h
 rw [hn, mem_zero] at this
 have hl := congrArg List.length this
 simp at hl
 omega
theorem ctz_lt {x : W64} (h : x ≠ 0) : ctzW x < 64 := by
 obtain ⟨m, hm, hk⟩ := Vj h
 exact hk
abbrev tabL : List Value := Lib.deBruijn64tab.map fun (n : Nat) => Value.int .u8 (n : Int)
abbrev Tb (w : World) : Prop := At w 0 0 tabL
theorem Tb.at {w : World} (h : Tb w) : Proofs.TabAt 0 Lib.deBruijn64tab w := by
 intro j hj
 have := h.get (v := .int .u8 ((Lib.deBruijn64tab.getD j 0 : Nat) : Int)) j (by
  rw [tabL, List.getElem?_map, List.getElem?_eq_getElem hj]
  simp [List.getD, List.getElem?_eq_getElem hj])
 rwa [Nat.zero_add] at this
theorem tz_ok (x : W64) (w : World) (hT : Tb w) : Ok Proofs.Tryz.prog 209 #[u64 x] w fun v w' => v = .int .i64 (ctzW x : Int) ∧ Ext False w w' := by
 refine Calls.mono (Proofs.Any7.bits_TrailingZeros64 Proofs.Tryz.tz64l x.toNat x.isLt w (fun _ => hT.at)) ?_
 rintro e w' ⟨rfl, rfl⟩
 exact ⟨_, rfl, rfl, Ext.rfl' _⟩
section
variable {P : Program} {n : Nat} {K : Fr → World → Prop} {fr : Fr} {w : World}
theorem Rg_yield {ops : Array Oper} {d : Option Nat} {y x : Operand} {tys : Array TypeId} {ty : TypeId} {pos : String} {af : Array Edge} {rest : List Oper} {l : Nat} {v : Value} {S : World → Prop} (hd : dstOk n d = true)
  (hy : ev fr y = .func (.yield l) #[] #[]) (hx : ev fr x = v) (h : Yl P l #[v] w fun e b => e = .returned (.bool true) ∧ S b)
  (hk : ∀ b, S b → Rg none P n ops rest K (fr.put d (.bool true)) b) :
  Rg none P n ops (⟨d, .call { callee := .value y, args := #[x], argTypes := tys }, ty, pos, af, none⟩ :: rest) K fr w := by
 intro N Q hq a ha
 refine wpListIn_plain rfl fun K' hK' => ?_
 unfold Oper.wpIn
 rw [ev_eq ha]
 refine ⟨fun _ _ => trivial, ?_⟩
 obtain ⟨fn, tmps, assign, body, hr, hro⟩ := h (N - 1)
 have he : (execOp (ev fr) ⟨d, .call { callee := .value y, args := #[x], argTypes := tys }, ty, pos, af, none⟩).run P w = .ok (.round l fn tmps assign body) w := by
  subst hx
  simp [execOp, resolve, hy, Deferred.ofValue, invoke, hr]
 rw [show (Fw none).round = none from rfl, Z4 he (fun _ e => by cases e)]
 refine ⟨fun e => (by cases e), RoundIn.mono hro ?_⟩
 rintro e b ⟨rfl, hs⟩
 exact hK' _ _ (hk b hs N Q hq _ (J4 ha hd _))
end
