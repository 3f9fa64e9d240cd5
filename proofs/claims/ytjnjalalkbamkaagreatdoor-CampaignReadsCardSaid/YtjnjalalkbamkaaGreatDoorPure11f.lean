/- Several texts in one file. -/
import Derived.Test.YtjnjalalkbamkaaGreatDoorNorm
import Derived.Test.YtjnjalalkbamkaaGreatDoorOwn
import Derived.Shelf.GgSortFunc.InsertionK
import Derived.Test.YtjnjalalkbamkaaGreatDoorOwn2
import Derived.Carry
import Derived.ProofKit
import Derived.OpenShut
import Derived.Laws.CopyRow
import Derived.Laws.IdiomCopy
set_option linter.unusedSimpArgs false
set_option linter.unusedVariables false
set_option linter.unnecessarySimpa false
/- Permissions, more: the text of a permission is read back. Nothing of a program stands here. -/
namespace Go.Lx
open Go
end Go.Lx
/- Lists of permissions: the normal list covers the same; two normal lists are equal exactly if they imply the same; what is common, what is beyond. Nothing of a program stands here. -/
namespace Go.Lx
open Go
end Go.Lx
/- An own slice as the library's sort takes and leaves it. Nothing of a program stands here. -/
namespace Go.Lx
open Go Go.RowKit
theorem ext_grow {W W' : World} (h : Ext True W W') : ∃ q os', W' = Sort.grow (W.drewN q) os' := by
 have h1 := h.os; have h2 := h.tape; have h3 := h.output; have h4 := h.size
 have h5 : ∀ b, b < W.heap.size → W'.heap[b]? = W.heap[b]? := fun b hb => h.block b hb id
 have hd := h.drawn trivial
 obtain ⟨heap, tape, drawn, os, output⟩ := W
 obtain ⟨heap', tape', drawn', os', output'⟩ := W'
 simp only at h1 h2 h3 h4 h5 hd
 subst h1 h2 h3
 refine ⟨drawn' - drawn, heap'.extract heap.size heap'.size, ?_⟩
 unfold Sort.grow World.drewN
 simp only [World.mk.injEq, and_true, true_and]
 refine ⟨?_, by omega⟩
 apply Array.ext_getElem?
 intro i
 rw [Array.getElem?_append]
 by_cases hi : i < heap.size
 ·rw [if_pos hi]; exact h5 i hi
 ·rw [if_neg hi, Array.getElem?_extract]
  by_cases hj : i < heap'.size
  ·rw [if_pos (by omega), show heap.size + (i - heap.size) = i from by omega]
  ·rw [if_neg (by omega), Array.getElem?_eq_none (by omega)]
section
variable {α : Type} [Inhabited α] {enc : α → List Value} {k m c g off : Nat} {D : Nat → Prop} {e : TypeId} {w : World} {l : List α}
theorem flat_get (he : EncOk enc k) (j : Nat) (hj : j < l.length * k) : (l.flatMap enc)[j]? = some ((Sort.flatK enc k l.toArray)[j]!) := by
 have hk := he.pos
 have h1 : j / k < l.length := Nat.div_lt_of_lt_mul (by rw [Nat.mul_comm]; exact hj)
 have h2 : j % k < k := Nat.mod_lt _ hk
 have e1 : j = (j / k) * k + j % k := by have := Nat.div_add_mod j k; rw [Nat.mul_comm] at this; exact this.symm
 have e2 := fm_get he (List.getElem?_eq_getElem h1) (j % k) h2
 rw [← e1] at e2
 rw [e2, Sort.get_flatK _ _ _ _ (by simpa using hj)]
 have h3 : (l.toArray)[j / k]! = l[j / k] := by simp [h1]
 rw [h3]
 have h4 : j % k < (enc l[j / k]).length := by rw [he.len]; exact h2
 simp [h4]
omit [Inhabited α] in
theorem own_parts (h : Own enc k e D w (.slice (some ⟨g, off, none⟩) m c) l) : off = 0 ∧ m = l.length ∧ D g ∧ ∃ cur : Array Value, w.heap[g]? = some (.cells cur e (0, 0)) ∧ l.length ≤ c ∧ c ≤ maxLen ∧ cur.size = c * k ∧ cur.toList.take (l.length * k) = l.flatMap enc := by
 rcases h.row.2 with ⟨h1, _⟩ | ⟨g', cap, cur, h1, h2, h3, h4, h5, h6, h7⟩
 ·simp at h1
 ·simp at h1
  obtain ⟨⟨rfl, rfl⟩, rfl, rfl⟩ := h1
  exact ⟨rfl, rfl, h.loc _ rfl, cur, h3, h4, h5, h6, h7⟩
theorem own_holds (he : EncOk enc k) (h : Own enc k e D w (.slice (some ⟨g, off, none⟩) m c) l) : Sort.HoldsK enc k w g off l.toArray := by
 obtain ⟨rfl, rfl, _, cur, h3, h4, h5, h6, h7⟩ := own_parts h
 intro j hj
 rw [Sort.size_flatK] at hj
 have hj' : j < l.length * k := by simpa using hj
 have hle : l.length * k ≤ cur.size := by rw [h6]; exact Nat.mul_le_mul_right _ h4
 have hg := flat_get he j hj'
 rw [← h7, List.getElem?_take, if_pos hj'] at hg
 constructor
 ·simp only [World.cell?, Nat.zero_add, h3]
  simpa using hg
 ·simp [World.frozen?, h3]
theorem own_sorted (he : EncOk enc k) {n : Nat} {d' : Array α} {os : Array Obj} (h : Own enc k e D w (.slice (some ⟨g, off, none⟩) m c) l) (hd : d'.size = l.length) :
  Own enc k e D (Go.Proofs.sortWorldK enc k w g off n d' os) (.slice (some ⟨g, off, none⟩) m c) d'.toList ∧ Bel True D w (Go.Proofs.sortWorldK enc k w g off n d' os) := by
 obtain ⟨rfl, rfl, hB, cur, h3, h4, h5, h6, h7⟩ := own_parts h
 have hlt : g < w.heap.size := (Array.getElem?_eq_some_iff.1 h3).1
 have hw : Go.Proofs.sortWorldK enc k w g 0 n d' os = { w with drawn := w.drawn + n, heap := w.heap.modify g (Sort.onCells (Sort.putCells id 0 (Sort.flatK enc k d'))) ++ os } := rfl
 have hle : l.length * k ≤ cur.size := by rw [h6]; exact Nat.mul_le_mul_right _ h4
 have hget : (Go.Proofs.sortWorldK enc k w g 0 n d' os).heap[g]? = some (.cells (Sort.putCells id 0 (Sort.flatK enc k d') cur) e (0, 0)) := by
  rw [hw]
  simp only
  rw [Array.getElem?_append_left (by simpa using hlt), Array.getElem?_modify, if_pos rfl, h3]
  rfl
 constructor
 ·refine ⟨⟨by rw [fm_len he], .inr ⟨g, c, _, by rw [← hd]; simp, Nat.zero_le _, hget, by rw [Array.length_toList, hd]; exact h4, h5, by simp [Sort.putCells, h6], ?_⟩⟩, h.loc⟩
  rw [Array.length_toList, hd]
  apply List.ext_getElem?
  intro j
  by_cases hj : j < l.length * k
  ·have h1 := flat_get (l := d'.toList) he j (by rw [Array.length_toList, hd]; exact hj)
   rw [h1, List.getElem?_take, if_pos hj]
   simp only [Sort.putCells, Array.getElem?_toList, Array.getElem?_mapIdx]
   rw [Array.getElem?_eq_getElem (by omega)]
   simp [hd, hj]
  ·rw [List.getElem?_eq_none (by simp [List.length_take]; omega), List.getElem?_eq_none (by rw [fm_len he, Array.length_toList, hd]; omega)]
 ·refine ⟨rfl, rfl, rfl, by rw [hw]; simp, ?_, fun _ => by rw [hw]; simp⟩
  intro j hjl hj
  have hne : g ≠ j := fun e => hj (e ▸ hB)
  rw [hw]
  simp only
  rw [Array.getElem?_append_left (by simpa using hjl), Array.getElem?_modify, if_neg hne]
end
end Go.Lx
/- From the row's reading of the arguments to slices told by lists; and the closing of a law. Nothing of a program stands here. -/
namespace Go.Lx
open Go Go.RowKit Go.ChangeShapes Go.WideShapes Go.ChangeAt
section
variable {H : Type} {enc : TypeId × Value → H} {P : Program} {w : World} {sp : Nat → Bool} {held : Bool} {fuel : Nat} {T e : TypeId}
theorem cells_get {a : Addr} {n : Nat} {cs : List Value} (h : w.cells? 0 a n = some cs) : cs.length = n ∧ ∀ j v, cs[j]? = some v → w.cell? (a.add j) = some v := by
 unfold World.cells? at h
 rw [if_pos (Nat.zero_le _)] at h
 have h1 := mapM_some_length h
 rw [List.length_range] at h1
 refine ⟨h1, fun j v hj => ?_⟩
 have hlt : j < n := by have := (List.getElem?_eq_some_iff.1 hj).1; omega
 rw [mapM_some_get h j j (by rw [List.getElem?_range hlt]), hj]
theorem cell_plain {a : Addr} {v : Value} (h : w.cell? a = some v) : a.spot = none ∧ a.block < w.heap.size := by
 refine ⟨?_, World.block_lt_of_cell? w a h⟩
 unfold World.cell? at h
 split at h
 ·split at h
  ·cases h
  ·rename_i hs; simpa using hs
 ·cases h
theorem add_block (a : Addr) (j : Nat) : (a.add j).block = a.block := by unfold Addr.add; split <;> rfl
theorem open_sl {α : Type} {ec : α → List Value} {k : Nat} {R : α → Prop} {v : Value} {x : DataW H × List MemPlace} (hT : P.underlying T = some (.slice e)) (hk : P.cellsOf e = k) (hpos : 0 < k) (hlen : ∀ z, (ec z).length = k)
  (hel : ∀ (n : Nat) (cs : List Value) (y : DataW H × List MemPlace), DataW.trod enc P w 0 sp held n e cs = some y → ∃ z, cs = ec z ∧ R z) (h : DataW.trod enc P w 0 sp held fuel T [v] = some x) :
  ∃ a c l, v = .slice a l.length c ∧ Sl ec k (Lt w.heap.size) w a c l ∧ ∀ z ∈ l, R z := by
 rcases DataW.trod_slice hT h with ⟨h1, _⟩ | ⟨a, len, cap, elems, rest, n, _, h1, _, _, h4, h5, h6, h7, _, _⟩
 ·simp at h1
  subst h1
  exact ⟨none, 0, [], rfl, Sl.none, fun z hz => by simp at hz⟩
 ·simp at h1
  subst h1
  have hall : ∀ i, i < len → ∃ z, R z ∧ w.cells? 0 (a.add (i * k)) k = some (ec z) := by
   intro i hi
   have h8 := h7 i hi
   rw [hk] at h8
   have h9 : elems[i]? = some elems[i] := List.getElem?_eq_getElem (by omega)
   rw [h9] at h8
   simp only [Option.bind_eq_some_iff] at h8
   obtain ⟨cs, g1, g2⟩ := h8
   obtain ⟨z, rfl, g4⟩ := hel n cs _ g2
   exact ⟨z, g4, g1⟩
  classical
  have hch : ∃ l : List α, l.length = len ∧ ∀ i z, l[i]? = some z → R z ∧ w.cells? 0 (a.add (i * k)) k = some (ec z) := by
   have hall' := hall
   revert hall'
   generalize len = m
   intro hall'
   induction m with
   | zero => exact ⟨[], rfl, fun i z hz => by simp at hz⟩
   | succ len ih =>
    obtain ⟨l, h1, h2⟩ := ih (fun i hi => hall' i (by omega))
    obtain ⟨z, g1, g2⟩ := hall' len (Nat.lt_succ_self _)
    refine ⟨l ++ [z], by simp [h1], fun i u hu => ?_⟩
    rw [List.getElem?_append] at hu
    split at hu
    ·exact h2 i u hu
    ·have : i = len := by
      have := (List.getElem?_eq_some_iff.1 hu).1
      simp at this; omega
     subst this
     rw [h1, Nat.sub_self] at hu
     simp at hu
     subst hu
     exact ⟨g1, g2⟩
  obtain ⟨l, hl, hz⟩ := hch
  refine ⟨some a, cap, l, by rw [hl], ⟨by omega, h5, (fun h => by cases h), ?_⟩, ?_⟩
  ·intro i z hi
   obtain ⟨_, g2⟩ := hz i z hi
   obtain ⟨g3, g4⟩ := cells_get g2
   have h0 : 0 < (ec z).length := by rw [hlen]; exact hpos
   have c0 := g4 0 (ec z)[0] (List.getElem?_eq_getElem h0)
   obtain ⟨s1, s2⟩ := cell_plain c0
   have hb : ((a.add (i * k)).add 0).block = a.block := by rw [add_block, add_block]
   rw [hb] at s2
   have hs : a.spot = none := by
    have hi0 : i < l.length := (List.getElem?_eq_some_iff.1 hi).1
    obtain ⟨_, q2⟩ := hz 0 l[0] (List.getElem?_eq_getElem (by omega))
    obtain ⟨_, q4⟩ := cells_get q2
    have h00 : 0 < (ec l[0]).length := by rw [hlen]; exact hpos
    have := (cell_plain (q4 0 (ec l[0])[0] (List.getElem?_eq_getElem h00))).1
    simpa [Addr.add] using this
   obtain ⟨b, off, spot⟩ := a
   simp only at hs
   subst hs
   refine ⟨b, off, rfl, ⟨s2, s2⟩, ?_, hlen z⟩
   intro j u hj
   have := g4 j u hj
   have e1 : ((⟨b, off, none⟩ : Addr).add (i * k)).add j = ⟨b, off + i * k + j, none⟩ := by
    unfold Addr.add
    by_cases h1 : i * k = 0 <;> by_cases h2 : j = 0 <;> simp [h1, h2]
   rwa [e1] at this
  ·intro z hzm
   obtain ⟨i, hi⟩ := List.mem_iff_getElem?.1 hzm
   exact (hz i z hi).1
theorem open_byte {T : TypeId} {n : Nat} {cs : List Value} {y : DataW H × List MemPlace} (hT : P.underlying T = some (.int .u8)) (h : DataW.trod enc P w 0 sp held n T cs = some y) : ∃ z : UInt8, cs = encB z ∧ True := by
 obtain ⟨m, h1, _, h3⟩ := DataW.trod_int hT h
 obtain ⟨b1, b2⟩ := bounds_u8 h3
 refine ⟨m.toNat.toUInt8, ?_, trivial⟩
 rw [h1, encB]
 have e : ((m.toNat.toUInt8).toNat : Int) = m := by
  have : (m.toNat.toUInt8).toNat = m.toNat := by
   simp [Nat.toUInt8, UInt8.toNat_ofNat]; omega
  rw [this]; omega
 rw [e]
theorem trods_stay (hl : laidOutB P = true) {W W' : World} (hb : Below W.heap.size W W') : ∀ {ts : List TypeId} {vs : List Value} {ds : List (DataW H)} {ps : List MemPlace}, (ts.all fun t => P.readableRec t && decide (t < P.types.size)) = true →
  DataW.TrodAll enc P W 0 (fun _ => true) true ts vs ds ps → (∀ x ∈ ps, x.block < W.heap.size) → ∀ sp : Nat → Bool, (∀ x ∈ ps, sp x.block = true) → DataW.TrodAll enc P W' 0 sp true ts vs ds ps
 | [], [], [], _, _, h, _, _, _ => h
 | [], [], _ :: _, _, _, h, _, _, _ => h.elim
 | [], _ :: _, _, _, _, h, _, _, _ => h.elim
 | _ :: _, [], _, _, _, h, _, _, _ => h.elim
 | _ :: _, _ :: _, [], _, _, h, _, _, _ => h.elim
 | t :: ts, v :: vs, d :: ds, ps, ht, h, hlt, sp, hsp => by
  obtain ⟨p, q, h1, h2, e⟩ := h
  simp only [List.all_cons, Bool.and_eq_true, decide_eq_true_eq] at ht
  refine ⟨p, q, WideElems.Trod_stays hl ht.1.1 ht.1.2 h1 (fun x hx => hb.same (hlt x (by rw [e]; simp [hx]))) (fun x hx => hsp x (by rw [e]; simp [hx])), ?_, e⟩
  exact trods_stay hl hb ht.2 h2 (fun x hx => hlt x (by rw [e]; simp [hx])) sp (fun x hx => hsp x (by rw [e]; simp [hx]))
theorem law_post {f : Func} {s : ChangeSpec} {W W' : World} {args : Array Value} {ds gs : List (DataW H)} {before : List MemPlace} {tb : TypeId} (hl : laidOutB P = true) (hp : (f.params.toList.all fun t => P.readableRec t && decide (t < P.types.size)) = true)
  (hv : s.vars = []) (hs : (s.fn H ds).results = [.lit (.bool true)] ∧ (s.fn H ds).args = ds ∧ (s.fn H ds).vars = []) (hr : f.resultTypes = #[tb]) (htb : P.underlying tb = some .bool)
  (hW : DataW.Whole enc P f.params.toList s.vars false W args.toList ds gs before) (hb : Below W.heap.size W W') :
  s.post enc P f false true false false W args (.bool true) W' := by
 have hlt : ∀ p ∈ before, p.block < W.heap.size := fun p hp => hW.lt p hp
 have hold : ∀ p ∈ before, (fun b => decide (b < W.heap.size)) p.block = true := fun p hp => by simpa using hlt p hp
 have hW' := hW
 obtain ⟨p, q, hA, hV, he, _, _⟩ := hW'
 rw [hv] at hV
 obtain ⟨rfl, rfl⟩ := trodVars_none hV
 rw [List.append_nil] at he
 obtain rfl := he
 have hds : ds ++ ([] : List (DataW H)) = ds := List.append_nil ds
 have hok : ∀ (j : Nat) (t : TypeId) (r : Value), f.resultTypes[j]? = some t → ((Value.bool true).resultList f.resultTypes.size)[j]? = some r → Value.okWide P W' .any 0 t r := ok_one hr rfl (okWide_bool_mk htb _)
 have hres : ∀ (b : Nat) (sp : Nat → Bool) (hd : Bool), DataW.TrodAll enc P W' b sp hd f.resultTypes.toList ((Value.bool true).resultList f.resultTypes.size) [.lit (.bool true)] [] := by
  intro b sp hd
  rw [hr]
  exact trodAll_mk1 (shut_bool htb _)
 have hargs := trods_stay hl hb hp hA hlt
 refine ⟨ds, [], before, [], before, [], hW, ?_, ?_, ?_, World.keptBut_mono (fun x hx => ⟨hx, .inr (.inl hx)⟩) (hb.frame (· ∈ before)), fun _ => ⟨hok, _, [], [] ++ before, ⟨[] ++ before, [], trodAll_append (hargs _ (fun _ _ => rfl)) (hres 0 _ true), ?_, by simp, ?_, fun h => by cases h⟩, fun x hx _ => by simpa using hx⟩⟩
 ·rw [hds, hs.1]; exact hres _ _ _
 ·rw [hds, hs.2.1]; exact hargs _ hold
 ·rw [hds, hs.2.2, hv]; rfl
 ·rw [hv]; rfl
 ·intro b off hx
  have hin : MemPlace.cell b off ∈ before := by simpa using hx
  rw [hb.frozen (hlt _ hin)]
  obtain ⟨_, _, _, _, _, hz, _⟩ := hW
  exact hz b off hin
end
end Go.Lx
/- A world that holds the listed tables: for the rows' witnesses. Nothing of a program stands here. -/
namespace Go.Lx
open Go
def datC : DataW Unit → List Value
 | .lit (.int k n) => [.int k n]
 | .lit (.bool b) => [.bool b]
 | .lit (.string s) => [.string ⟨s.toArray⟩]
 | .agg l => datCs l
 | _ => []
where datCs : List (DataW Unit) → List Value
 | [] => []
 | d :: r => datC d ++ datCs r
def layIn (h : Array Obj) (g : Nat) (d : DataW Unit) : Array Obj := h.modify g fun
 | .cells _ t frozen => .cells (datC d).toArray t frozen
 | o => o
end Go.Lx
/- Words of 64 bits: the rules of their operations. Nothing of a program stands here. -/
namespace Go.Lx
open Go
abbrev W64 := BitVec 64
def u64 (x : W64) : Value := .int .u64 (x.toNat : Int)
theorem wrapU (x : W64) : IntKind.u64.wrap (x.toNat : Int) = (x.toNat : Int) := by
 have h := x.isLt
 simp [IntKind.wrap, IntKind.bits, IntKind.signed]
 omega
theorem wrapU' (n : Nat) : IntKind.u64.wrap (n : Int) = ((BitVec.ofNat 64 n).toNat : Int) := by
 simp [IntKind.wrap, IntKind.bits, IntKind.signed]
theorem ofInt_toNat (x : W64) : BitVec.ofInt 64 (x.toNat : Int) = x := by
 rw [BitVec.ofInt_natCast, BitVec.ofNat_toNat, BitVec.setWidth_eq]
section
variable {P : Program} {fr : Fr} {w : World} {d : Option Nat} {t : TypeId} {ps : String} {af : Array Edge} {g : Option (Nat × Bool)} {x y z : Operand} {k : IntKind} {a b : W64} {T U : TypeId} {n : Nat}
theorem o_band (hx : ev fr x = u64 a) (hy : ev fr y = u64 b) : xop P fr w ⟨d, .binOp .and T x y U, t, ps, af, g⟩ = .ok (.value (u64 (a &&& b))) w := by
 have e0 : IntKind.u64.wrap ((BitVec.ofInt 64 (a.toNat : Int) &&& BitVec.ofInt 64 (b.toNat : Int)).toNat : Int) = ((a &&& b).toNat : Int) := by rw [ofInt_toNat, ofInt_toNat, wrapU]
 have e : IntKind.u64.wrap ((BitVec.ofInt IntKind.u64.bits (a.toNat : Int) &&& BitVec.ofInt IntKind.u64.bits (b.toNat : Int)).toNat : Int) = ((a &&& b).toNat : Int) := e0
 simp only [xop, execOp, hx, hy, u64, eqGuard, binOp, Op.intBits]
 simp only [e]; simp
theorem o_bor (hx : ev fr x = u64 a) (hy : ev fr y = u64 b) : xop P fr w ⟨d, .binOp .or T x y U, t, ps, af, g⟩ = .ok (.value (u64 (a ||| b))) w := by
 have e0 : IntKind.u64.wrap ((BitVec.ofInt 64 (a.toNat : Int) ||| BitVec.ofInt 64 (b.toNat : Int)).toNat : Int) = ((a ||| b).toNat : Int) := by rw [ofInt_toNat, ofInt_toNat, wrapU]
 have e : IntKind.u64.wrap ((BitVec.ofInt IntKind.u64.bits (a.toNat : Int) ||| BitVec.ofInt IntKind.u64.bits (b.toNat : Int)).toNat : Int) = ((a ||| b).toNat : Int) := e0
 simp only [xop, execOp, hx, hy, u64, eqGuard, binOp, Op.intBits]
 simp only [e]; simp
theorem o_bandn (hx : ev fr x = u64 a) (hy : ev fr y = u64 b) : xop P fr w ⟨d, .binOp .andNot T x y U, t, ps, af, g⟩ = .ok (.value (u64 (a &&& ~~~b))) w := by
 have e0 : IntKind.u64.wrap ((BitVec.ofInt 64 (a.toNat : Int) &&& ~~~BitVec.ofInt 64 (b.toNat : Int)).toNat : Int) = ((a &&& ~~~b).toNat : Int) := by rw [ofInt_toNat, ofInt_toNat, wrapU]
 have e : IntKind.u64.wrap ((BitVec.ofInt IntKind.u64.bits (a.toNat : Int) &&& ~~~BitVec.ofInt IntKind.u64.bits (b.toNat : Int)).toNat : Int) = ((a &&& ~~~b).toNat : Int) := e0
 simp only [xop, execOp, hx, hy, u64, eqGuard, binOp, Op.intBits]
 simp only [e]; simp
theorem o_shlU (hx : ev fr x = u64 a) (hy : ev fr y = .int k (n : Int)) (hn : n < 64) : xop P fr w ⟨d, .binOp .shl T x y U, t, ps, af, g⟩ = .ok (.value (u64 (a <<< n))) w := by
 have e : IntKind.u64.wrap ((a.toNat : Int) * 2 ^ n) = ((a <<< n).toNat : Int) := by
  have h : ((a.toNat : Int) * 2 ^ n) = ((a.toNat * 2 ^ n : Nat) : Int) := by simp
  rw [h, wrapU', BitVec.toNat_shiftLeft, BitVec.toNat_ofNat, Nat.shiftLeft_eq]
 have h0 : ¬ ((n : Int) < 0) := by omega
 have h1 : min ((n : Int).toNat) 64 = n := by rw [Int.toNat_natCast]; omega
 have h1' : min ((n : Int).toNat) IntKind.u64.bits = n := h1
 simp only [xop, execOp, hx, hy, u64, eqGuard, binOp, Op.shift, if_neg h0]
 simp only [h1', e]; simp
theorem o_shrU (hx : ev fr x = u64 a) (hy : ev fr y = .int k (n : Int)) (hn : n < 64) : xop P fr w ⟨d, .binOp .shr T x y U, t, ps, af, g⟩ = .ok (.value (u64 (a >>> n))) w := by
 have e : Int.fdiv (a.toNat : Int) (2 ^ n) = ((a >>> n).toNat : Int) := by
  rw [BitVec.toNat_ushiftRight, Nat.shiftRight_eq_div_pow]
  rw [Int.fdiv_eq_ediv_of_nonneg _ (by exact Int.le_of_lt (Int.pow_pos (by decide)))]
  simp
 have h0 : ¬ ((n : Int) < 0) := by omega
 have h1 : min ((n : Int).toNat) 64 = n := by rw [Int.toNat_natCast]; omega
 have h1' : min ((n : Int).toNat) IntKind.u64.bits = n := h1
 simp only [xop, execOp, hx, hy, u64, eqGuard, binOp, Op.shift, if_neg h0]
 simp only [h1', e]; simp
theorem eqU (a b : W64) : ((a.toNat : Int) == (b.toNat : Int)) = (a == b) := by
 rw [Bool.eq_iff_iff, beq_iff_eq, beq_iff_eq, ← BitVec.toNat_inj]; omega
theorem o_eqU (hx : ev fr x = u64 a) (hy : ev fr y = u64 b) : xop P fr w ⟨d, .binOp .eql T x y U, t, ps, af, g⟩ = .ok (.value (.bool (a == b))) w := by
 rw [Q0 hx hy, eqU]
theorem o_neU (hx : ev fr x = u64 a) (hy : ev fr y = u64 b) : xop P fr w ⟨d, .binOp .neq T x y U, t, ps, af, g⟩ = .ok (.value (.bool (a != b))) w := by
 rw [o_neq hx hy]; unfold bne; rw [eqU]
theorem o_subU (hx : ev fr x = u64 a) (hy : ev fr y = u64 b) : xop P fr w ⟨d, .binOp .sub T x y U, t, ps, af, g⟩ = .ok (.value (u64 (a - b))) w := by
 have e : IntKind.u64.wrap ((a.toNat : Int) - (b.toNat : Int)) = ((a - b).toNat : Int) := by
  have h1 := a.isLt
  have h2 := b.isLt
  rw [BitVec.toNat_sub]
  simp [IntKind.wrap, IntKind.bits, IntKind.signed]
  omega
 simp [xop, execOp, hx, hy, u64, eqGuard, binOp, Op.intArith, e]
end
end Go.Lx
/- Sets of numbers below 64, as a slice of at most one word; copy. Nothing of a program stands here. -/
namespace Go.Lx
open Go
section
variable {rd : Option Nat} {α : Type} {enc : α → List Value} {P : Program} {n by_ : Nat} {K : Fr → World → Prop} {fr : Fr} {w : World} {T e : TypeId} {z : Value} {D F : Nat → Prop} {l s : List α}
theorem run_copy_any (w : World) (dT sT ty elem : TypeId) (d a : Option Addr) (dLen dCap sCap : Nat) (hu : P.underlying dT = some (.slice elem)) (hs : (P.info? elem).map (·.size) = some 1) :
  (Builtin.copy_ #[dT, sT] ty #[.slice d dLen dCap, .slice a 0 sCap]).run P w = .ok (goInt 0) w :=
 run_copy_none w dT sT ty elem d a dLen dCap 0 sCap hu hs (Nat.zero_min _)
theorem Rg_copy {ops : Array Oper} {rest : List Oper} {d : Option Nat} {ty : TypeId} {pos : String} {af : Array Edge} {x y : Operand} {a a' : Option Addr} {m c c' : Nat} (hd : dstOk n d = true)
  (he : EncOk enc 1) (ht : ElT P T e 1 by_ z) (hx : ev fr x = .slice a m c) (hy : ev fr y = .slice a' s.length c') (ho : Own enc 1 e D w (.slice a m c) l) (hs : Sl enc 1 F w a' c' s) (hle : s.length ≤ l.length)
  (hk : ∀ w', Bel True D w w' → Own enc 1 e D w' (.slice a m c) (s ++ l.drop s.length) → Rg rd P n ops rest K (fr.put d (.int .i64 (s.length : Int))) w') :
  Rg rd P n ops (⟨d, .call { callee := .builtin .copy, args := #[x, y], argTypes := #[T, T] }, ty, pos, af, none⟩ :: rest) K fr w := by
 obtain ⟨i, hi, hzz, hsz, hby⟩ := ht.inf
 have hs1 : (P.info? e).map (·.size) = some 1 := by rw [hi]; simp [hsz]
 by_cases h0 : s = []
 ·subst h0
  have hr := run_copy_any (P := P) w T T ty e a a' m c c' ht.sl hs1
  refine QC hd (v := .int .i64 0) (w' := w) ?_ (hk _ (Bel.refl _ _) (by simpa using ho))
  have hy' : ev fr y = .slice a' 0 c' := hy
  simp [execOp, resolve, invoke, builtin, hx, hy', hr, goInt]
 ·obtain ⟨b, off, rfl, _, hat⟩ := hs.cells he h0
  rcases ho.row.2 with ⟨h1, h2⟩ | ⟨g, cap, cur, h1, h2, h3, h4, h5, h6, h7⟩
  ·exact absurd (List.eq_nil_of_length_eq_zero (by omega)) h0
  ·have hsl : a = some ⟨g, 0, none⟩ ∧ m = l.length ∧ c = cap := by simp at h1; exact h1
   obtain ⟨rfl, rfl, rfl⟩ := hsl
   have hcl : (s.flatMap enc).length = s.length := by rw [fm_len he]; omega
   have hll : (l.flatMap enc).length = l.length := by rw [fm_len he]; omega
   have hsrc : ∀ j v, (s.flatMap enc)[j]? = some v → w.cell? ((⟨b, off, none⟩ : Addr).add j) = some v := by
    intro j v hj
    have := hat j v hj
    unfold Addr.add
    by_cases hz : j = 0
    ·subst hz; simpa using this
    ·rw [if_neg hz]; exact this
   have hr := run_copy_row (P := P) w T T ty e g 0 l.length c ⟨b, off, none⟩ s.length c' cur e (s.flatMap enc) ht.sl hs1 h3 (by rw [hcl]; exact (Nat.min_eq_left hle).symm) hsrc (by rw [hcl]; omega) (fm_one he _)
   rw [hcl] at hr
   refine QC hd (v := .int .i64 (s.length : Int)) ?_ (hk (w.setRow g (cur.toList.take 0 ++ s.flatMap enc ++ cur.toList.drop (0 + s.length)).toArray) ?_ ?_)
   ·simp only [List.take_zero, List.nil_append, Nat.zero_add] at hr ⊢
    simp [execOp, resolve, invoke, builtin, hx, hy, hr, goInt]
   ·exact ⟨rfl, rfl, rfl, by simp, fun q _ hq => setRow_other w g q _ (fun e => hq (by subst e; exact ho.loc _ rfl)), fun _ => Nat.le_refl _⟩
   ·have hcur : (cur.toList.take 0 ++ s.flatMap enc ++ cur.toList.drop (0 + s.length)).length = cur.size := by
     simp only [List.take_zero, List.nil_append, List.length_append, hcl, List.length_drop, Array.length_toList]; omega
    have hlen : (s ++ l.drop s.length).length = l.length := by rw [List.length_append, List.length_drop]; omega
    refine ⟨⟨by rw [fm_len he], .inr ⟨g, c, _, by simp [hlen], h2, setRow_heap w g cur _ e _ h3, by rw [hlen]; exact h4, h5, by rw [List.size_toArray, hcur, h6], ?_⟩⟩, ho.loc⟩
    rw [hlen, List.toList_toArray, List.flatMap_append]
    simp only [List.take_zero, List.nil_append, Nat.zero_add]
    have t2 : (l.drop s.length).flatMap enc = (l.flatMap enc).drop s.length := by
     have := fm_take he (l := l) s.length
     have e1 : l.flatMap enc = (l.take s.length).flatMap enc ++ (l.drop s.length).flatMap enc := by rw [← List.flatMap_append, List.take_append_drop]
     have e2 : ((l.take s.length).flatMap enc).length = s.length := by rw [fm_len he, List.length_take]; omega
     rw [e1, List.drop_left' e2]
    rw [t2, ← h7, List.drop_take, List.take_append, hcl, List.take_of_length_le (by rw [hcl]; omega)]
end
def encU (x : W64) : List Value := [u64 x]
theorem Zd : EncOk encU 1 := ⟨by decide, fun _ => rfl, fun x u hu => by simp [encU] at hu; subst hu; rfl⟩
theorem gm {α : Type} {l : List α} {k : Nat} {z : α} (h : k < l.length) : l.getD k z ∈ l := by
 have : l.getD k z = l[k] := by simp [List.getD, h]
 rw [this]; exact List.getElem_mem h
theorem getD_out {α : Type} {l : List α} {k : Nat} (z : α) (h : l.length ≤ k) : l.getD k z = z := by simp [List.getD, List.getElem?_eq_none h]
def wl (x : W64) : List W64 := if x = 0 then [] else [x]
structure SV where
 a : Option Addr
 c : Nat
 x : W64
def encSV (s : SV) : List Value := [.slice s.a (wl s.x).length s.c]
theorem encSV_ok : EncOk encSV 1 := ⟨by decide, fun _ => rfl, fun x u hu => by simp [encSV] at hu; subst hu; rfl⟩
def sz : SV := ⟨none, 0, 0⟩
theorem wl_some {x : W64} (h : x ≠ 0) : wl x = [x] := by rw [wl, if_neg h]
theorem wl_len (x : W64) : (wl x).length ≤ 1 := by unfold wl; split <;> simp
theorem wl_get (x : W64) : (wl x).getD 0 0 = x := by
 unfold wl
 split
 ·rename_i h; rw [h]; rfl
 ·rfl
theorem wl_getk {x : W64} {k : Nat} (h : 1 ≤ k) : (wl x).getD k 0 = 0 := by
 have := wl_len x
 simp [List.getD, List.getElem?_eq_none (by omega : (wl x).length ≤ k)]
theorem wl_cases (x : W64) : (x = 0 ∧ wl x = []) ∨ (x ≠ 0 ∧ wl x = [x]) := by
 by_cases h : x = 0
 ·exact .inl ⟨h, by rw [h]; rfl⟩
 ·exact .inr ⟨h, wl_some h⟩
def hasW (x : W64) (i : Int) : Bool := decide (0 ≤ i) && decide (i < 64) && x.getLsbD i.toNat
theorem hasW_nat (x : W64) (i : Nat) : hasW x (i : Int) = x.getLsbD i := by
 have h0 : decide ((0 : Int) ≤ (i : Int)) = true := decide_eq_true (by omega)
 unfold hasW
 rw [h0, Int.toNat_natCast, Bool.true_and]
 by_cases h : i < 64
 ·rw [decide_eq_true (by omega : (i : Int) < 64), Bool.true_and]
 ·rw [decide_eq_false (by omega : ¬ (i : Int) < 64), BitVec.getLsbD_of_ge _ _ (by omega)]; rfl
theorem bit_and (x : W64) (k : Nat) (h : k < 64) : (((x >>> k) &&& 1#64) == 1#64) = x.getLsbD k := by
 have e : (x >>> k) &&& 1#64 = if x.getLsbD k then 1#64 else 0#64 := by
  apply BitVec.eq_of_getLsbD_eq
  intro i hi
  rw [BitVec.getLsbD_and, BitVec.getLsbD_ushiftRight]
  cases hx : x.getLsbD k with
  | false =>
   by_cases h0 : i = 0
   ·subst h0; simp [hx]
   ·simp [BitVec.getLsbD_one, h0]
  | true =>
   by_cases h0 : i = 0
   ·subst h0; simp [hx]
   ·simp [BitVec.getLsbD_one, h0]
 rw [e]
 cases x.getLsbD k <;> simp
theorem has_eq (x : W64) (i : Int) : ((decide (0 ≤ i) && decide (i ≤ 4095)) && ((((wl x).getD (i.toNat / 64) 0 >>> (i.toNat % 64)) &&& 1#64) == 1#64)) = hasW x i := by
 rw [bit_and _ _ (Nat.mod_lt _ (by decide))]
 unfold hasW
 by_cases h0 : 0 ≤ i
 ·by_cases h1 : i < 64
  ·have e1 : i.toNat / 64 = 0 := by omega
   have e2 : i.toNat % 64 = i.toNat := by omega
   rw [e1, e2, wl_get]
   have : i ≤ 4095 := by omega
   simp [h0, h1, this]
  ·rw [wl_getk (by omega)]
   simp [h1]
 ·simp [h0]
def oneW (i : Nat) : W64 := 1#64 <<< i
theorem oneW_get (i j : Nat) (hi : i < 64) : (oneW i).getLsbD j = decide (j = i) := by
 unfold oneW
 rw [BitVec.getLsbD_shiftLeft, BitVec.getLsbD_one]
 by_cases h : j = i
 ·subst h; simp [hi]
 ·by_cases h2 : j < i
  ·simp [h2, h]
  ·have : ¬ (j - i = 0) := by omega
   simp [this, h]
theorem with_has {x : W64} {i : Nat} (hi : i < 64) (h : x.getLsbD i = true) : x ||| oneW i = x := by
 apply BitVec.eq_of_getLsbD_eq
 intro j hj
 rw [BitVec.getLsbD_or, oneW_get i j hi]
 by_cases e : j = i
 ·subst e; simp [h]
 ·simp [e]
theorem with_ne {x : W64} {i : Nat} (hi : i < 64) : x ||| oneW i ≠ 0 := by
 intro h
 have := congrArg (fun y : W64 => y.getLsbD i) h
 simp [oneW_get i i hi] at this
section
variable {P : Program} {fr : Fr} {w : World} {d : Option Nat} {t : TypeId} {ps : String} {af : Array Edge} {g : Option (Nat × Bool)} {x y z : Operand} {k : IntKind} {T U : TypeId}
theorem o_quoT {a : Int} {b : Nat} (hx : ev fr x = .int .i64 a) (hy : ev fr y = .int .i64 (b : Int)) (ha : 0 ≤ a) (hb : 0 < b) (hr : I64 a) : xop P fr w ⟨d, .binOp .quo T x y U, t, ps, af, g⟩ = .ok (.value (.int .i64 ((a.toNat / b : Nat) : Int))) w := by
 rw [o_quo hx hy ha (by omega) hr]
 have : a / (b : Int) = ((a.toNat / b : Nat) : Int) := by
  rw [Int.natCast_ediv, Int.toNat_of_nonneg ha]
 rw [this]
theorem o_remT {a : Int} {b : Nat} (hx : ev fr x = .int .i64 a) (hy : ev fr y = .int .i64 (b : Int)) (ha : 0 ≤ a) (hb : 0 < b) (hr : I64 a) : xop P fr w ⟨d, .binOp .rem T x y U, t, ps, af, g⟩ = .ok (.value (.int .i64 ((a.toNat % b : Nat) : Int))) w := by
 rw [o_rem hx hy ha (by omega) hr]
 have : a % (b : Int) = ((a.toNat % b : Nat) : Int) := by
  rw [Int.natCast_emod, Int.toNat_of_nonneg ha]
 rw [this]
theorem o_maxN {a b : Nat} {tys : Array TypeId} (hx : ev fr x = .int .i64 (a : Int)) (hy : ev fr y = .int .i64 (b : Int)) : xop P fr w ⟨d, .call { callee := .builtin .max, args := #[x, y], argTypes := tys }, t, ps, af, g⟩ = .ok (.value (.int .i64 ((max a b : Nat) : Int))) w := by
 have : (if (a : Int) < b then (b : Int) else a) = ((max a b : Nat) : Int) := by split <;> omega
 simp [xop, execOp, resolve, invoke, builtin, hx, hy, Builtin.max_, Builtin.max2]
 omega
end
def encJ (x : Int) : List Value := [.int .i64 x]
theorem encJ_ok : EncOk encJ 1 := ⟨by decide, fun _ => rfl, fun x u hu => by simp [encJ] at hu; subst hu; rfl⟩
def ofW (l : List Int) : W64 := l.foldl (fun x i => x ||| oneW i.toNat) 0
theorem ofW_succ {l : List Int} {k : Nat} (h : k < l.length) : ofW (l.take (k + 1)) = ofW (l.take k) ||| oneW (l.getD k 0).toNat := by
 unfold ofW
 rw [List.take_succ_eq_append_getElem h, List.foldl_append]
 simp [List.getD, h]
structure TopI (l : List Int) (k : Nat) (t : Int) : Prop where
 le : k ≤ l.length
 lo : -1 ≤ t
 hi : t < 64
 ge : ∀ i, i < k → l.getD i 0 ≤ t
theorem TopI.start (l : List Int) : TopI l 0 (-1) := ⟨Nat.zero_le _, Int.le_refl _, by decide, fun i hi => by omega⟩
theorem TopI.next {l : List Int} {k : Nat} {t : Int} (h : TopI l k t) (hk : k < l.length) (hl : l.getD k 0 < 64) : TopI l (k + 1) (if t < l.getD k 0 then l.getD k 0 else t) := by
 refine ⟨hk, ?_, ?_, ?_⟩
 ·have := h.lo; split <;> omega
 ·have := h.hi; split <;> omega
 ·intro i hi
  rcases Nat.lt_or_ge i k with h1 | h1
  ·have := h.ge i h1; split <;> omega
  ·have : i = k := by omega
   subst this
   split <;> omega
theorem ofW_none {l : List Int} {t : Int} (h : TopI l l.length t) (ht : t < 0) (hl : ∀ i ∈ l, 0 ≤ i) : l = [] := by
 cases l with
 | nil => rfl
 | cons a r =>
  have h1 := h.ge 0 (by simp)
  have h2 := hl a (by simp)
  simp at h1
  omega
theorem trim_len {ws : List W64} {n : Nat} (hw : ws.length ≤ 1) (hn : n ≤ ws.length) (hz : ∀ i, n ≤ i → ws.getD i 0 = 0) (he : n = 0 ∨ ws.getD (n - 1) 0 ≠ 0) : n = (wl (ws.getD 0 0)).length ∧ ws.take n = wl (ws.getD 0 0) := by
 match ws, hw with
 | [], _ =>
  have : n = 0 := by simpa using hn
  subst this
  exact ⟨rfl, rfl⟩
 | [x], _ =>
  have hn' : n ≤ 1 := by simpa using hn
  rcases he with rfl | he
  ·have := hz 0 (Nat.le_refl _)
   have hx : x = 0 := by simpa using this
   subst hx
   exact ⟨rfl, rfl⟩
  ·have h1 : n = 1 := by
    apply Classical.byContradiction
    intro h
    have : n = 0 := by omega
    subst this
    have := hz 0 (Nat.le_refl _)
    exact he (by simpa using this)
   subst h1
   have hx : x ≠ 0 := by simpa using he
   rw [show ([x] : List W64).getD 0 0 = x from rfl, wl_some hx]
   exact ⟨rfl, rfl⟩
theorem take_n {ws : List W64} {n : Nat} (hn : n ≤ ws.length) : (ws.take n).length = n := by rw [List.length_take]; omega
theorem take_lastW {ws : List W64} {n : Nat} (h1 : 1 ≤ n) (hn : n ≤ ws.length) : (ws.take n).getD ((ws.take n).length - 1) 0 = ws.getD (n - 1) 0 := by
 rw [take_n hn]
 simp [List.getD, List.getElem?_take, show n - 1 < n by omega]
theorem trim_yes {ws : List W64} {n : Nat} (hn : n ≤ ws.length) (h : (decide ((0 : Int) < ((ws.take n).length : Int)) && ((ws.take n).getD ((ws.take n).length - 1) 0 == 0#64)) = true) : 1 ≤ n ∧ ws.getD (n - 1) 0 = 0 := by
 rw [Bool.and_eq_true] at h
 have h1 := of_decide_eq_true h.1
 have h2 := take_n hn
 have h3 : 1 ≤ n := by omega
 refine ⟨h3, ?_⟩
 have := h.2
 rw [take_lastW h3 hn] at this
 simpa using this
theorem trim_no {ws : List W64} {n : Nat} (hn : n ≤ ws.length) (h : (decide ((0 : Int) < ((ws.take n).length : Int)) && ((ws.take n).getD ((ws.take n).length - 1) 0 == 0#64)) = false) : n = 0 ∨ ws.getD (n - 1) 0 ≠ 0 := by
 rw [Bool.and_eq_false_iff] at h
 have h2 := take_n hn
 rcases h with h | h
 ·have := of_decide_eq_false h; left; omega
 ·rcases Nat.eq_zero_or_pos n with h0 | h0
  ·exact .inl h0
  ·right
   rw [take_lastW h0 hn] at h
   simpa using h
theorem trim_next {ws : List W64} {n : Nat} (h1 : 1 ≤ n) (h : ws.getD (n - 1) 0 = 0) (hz : ∀ i, n ≤ i → ws.getD i 0 = 0) : ∀ i, n - 1 ≤ i → ws.getD i 0 = 0 := by
 intro i hi
 rcases Nat.lt_or_ge i n with h2 | h2
 ·have : i = n - 1 := by omega
  rw [this]; exact h
 ·exact hz i h2
theorem trim_sl {F : Nat → Prop} {w : World} {a : Option Addr} {c : Nat} {ws : List W64} (h : Sl encU 1 F w a c ws) (hw : ws.length ≤ 1) : Sl encU 1 F w a c (wl (ws.getD 0 0)) := by
 match ws, hw with
 | [], _ => exact h
 | [x], _ =>
  rcases wl_cases x with ⟨h1, h2⟩ | ⟨h1, h2⟩
  ·show Sl encU 1 F w a c (wl x)
   rw [h2]; exact h.take 0
  ·show Sl encU 1 F w a c (wl x)
   rw [h2]; exact h
section
variable {P : Program} {fr : Fr} {w : World} {d : Option Nat} {t : TypeId} {ps : String} {af : Array Edge} {g : Option (Nat × Bool)} {x y z : Operand} {T U : TypeId}
theorem o_quoZ {a : Int} {b : Nat} (hx : ev fr x = .int .i64 a) (hy : ev fr y = .int .i64 (b : Int)) (ha : 0 ≤ a) (hb : a < b) (hr : I64 a) : xop P fr w ⟨d, .binOp .quo T x y U, t, ps, af, g⟩ = .ok (.value (.int .i64 0)) w := by
 rw [o_quo hx hy ha (by omega) hr, Int.ediv_eq_zero_of_lt ha hb]
theorem o_maxI {a b : Int} {tys : Array TypeId} (hx : ev fr x = .int .i64 a) (hy : ev fr y = .int .i64 b) : xop P fr w ⟨d, .call { callee := .builtin .max, args := #[x, y], argTypes := tys }, t, ps, af, g⟩ = .ok (.value (.int .i64 (if a < b then b else a))) w := by
 simp [xop, execOp, resolve, invoke, builtin, hx, hy, Builtin.max_, Builtin.max2]
end
theorem o_maxTo {P : Program} {fr : Fr} {w : World} {d : Option Nat} {t : TypeId} {ps : String} {af : Array Edge} {g : Option (Nat × Bool)} {x y : Operand} {a b m : Nat} {tys : Array TypeId} (hx : ev fr x = .int .i64 (a : Int)) (hy : ev fr y = .int .i64 (b : Int)) (h : max a b = m) : xop P fr w ⟨d, .call { callee := .builtin .max, args := #[x, y], argTypes := tys }, t, ps, af, g⟩ = .ok (.value (.int .i64 (m : Int))) w := by
 rw [o_maxN hx hy, h]
theorem with_yes {x : W64} {i : Nat} (hi : i < 64) (h : ((decide ((i : Int) < 0) || decide ((4095 : Int) < (i : Int))) || hasW x (i : Int)) = true) : x.getLsbD i = true := by
 rw [hasW_nat] at h
 have h1 : decide ((i : Int) < 0) = false := decide_eq_false (by omega)
 have h2 : decide ((4095 : Int) < (i : Int)) = false := decide_eq_false (by omega)
 simpa [h1, h2] using h
theorem with_len {x : W64} {i : Nat} (hi : i < 64) : (wl (x ||| oneW i)).length = 1 := by rw [wl_some (with_ne hi)]; rfl
theorem with_max {x : W64} {i : Nat} (hi : i < 64) : max (wl x).length 1 = (wl (x ||| oneW i)).length := by
 have := wl_len x
 rw [with_len hi]; omega
theorem wl_pad (x : W64) : wl x ++ ([0] : List W64).drop (wl x).length = [x] := by
 rcases wl_cases x with ⟨h, e⟩ | ⟨h, e⟩
 ·rw [e, h]; rfl
 ·rw [e]; rfl
def subW (x y : W64) : Bool := (x &&& ~~~y) == 0
theorem sub_yes {x y : W64} {k : Nat} (hk : k < (wl x).length) : (wl x).getD k 0 &&& ~~~((wl y).getD k 0) = x &&& ~~~y := by
 have h1 := wl_len x
 have : k = 0 := by omega
 subst this
 rw [wl_get, wl_get]
theorem sub_end {x y : W64} {k : Nat} (hge : ¬ (k : Int) < ((wl x).length : Int)) (h : 1 ≤ k → x &&& ~~~y = 0) : subW x y = true := by
 unfold subW
 by_cases h0 : 1 ≤ k
 ·rw [h h0]; simp
 ·rcases wl_cases x with ⟨e, _⟩ | ⟨_, e⟩
  ·rw [e]; simp
  ·rw [e] at hge; simp at hge; omega
theorem sub_iff {x y : W64} : subW x y = true ↔ ∀ i, x.getLsbD i = true → y.getLsbD i = true := by
 unfold subW
 rw [beq_iff_eq]
 constructor
 ·intro h i hx
  have hi : i < 64 := by
   apply Classical.byContradiction
   intro hn
   rw [BitVec.getLsbD_of_ge _ _ (by omega)] at hx; cases hx
  have := congrArg (fun z : W64 => z.getLsbD i) h
  simp [hx, hi] at this
  exact this
 ·intro h
  apply BitVec.eq_of_getLsbD_eq
  intro i hi
  cases hx : x.getLsbD i with
  | false => simp [hx]
  | true => simp [hx, h i hx]
/-! Union, cut, difference of one. -/
def orL (x y : W64) (k : Nat) : List W64 := if k = 0 then List.replicate (wl (x ||| y)).length 0 else wl (x ||| y)
theorem or_zero {x y : W64} : x ||| y = 0 ↔ x = 0 ∧ y = 0 := by
 constructor
 ·intro h
  constructor
  ·apply BitVec.eq_of_getLsbD_eq
   intro i hi
   have := congrArg (fun z : W64 => z.getLsbD i) h
   simp at this ⊢; exact this.1
  ·apply BitVec.eq_of_getLsbD_eq
   intro i hi
   have := congrArg (fun z : W64 => z.getLsbD i) h
   simp at this ⊢; exact this.2
 ·rintro ⟨rfl, rfl⟩; rfl
theorem or_max (x y : W64) : max (wl x).length (wl y).length = (wl (x ||| y)).length := by
 rcases wl_cases x with ⟨h, e⟩ | ⟨h, e⟩ <;> rcases wl_cases y with ⟨h', e'⟩ | ⟨h', e'⟩
 ·rw [h, h']; rfl
 ·rw [wl_some (fun q => h' (or_zero.1 q).2), e, e']; rfl
 ·rw [wl_some (fun q => h (or_zero.1 q).1), e, e']; rfl
 ·rw [wl_some (fun q => h (or_zero.1 q).1), e, e']; rfl
theorem or_start {x y : W64} (h : (0 : Int) < ((wl (x ||| y)).length : Int)) : orL x y 0 = [0] ∧ wl (x ||| y) = [x ||| y] := by
 rcases wl_cases (x ||| y) with ⟨h', e⟩ | ⟨h', e⟩
 ·rw [e] at h; simp at h
 ·exact ⟨by rw [orL, if_pos rfl, e]; rfl, e⟩
theorem or_one {x y : W64} (e : wl (x ||| y) = [x ||| y]) : orL x y 1 = ([0] : List W64).set 0 ((wl x).getD 0 0 ||| (wl y).getD 0 0) := by
 rw [orL, if_neg (by decide), e, wl_get, wl_get]; rfl
theorem or_end {x y : W64} {k : Nat} (h : ¬ (k : Int) < ((wl (x ||| y)).length : Int)) : orL x y k = wl (x ||| y) := by
 unfold orL
 split
 ·rename_i h0
  subst h0
  have : (wl (x ||| y)).length = 0 := by omega
  rw [this, List.eq_nil_of_length_eq_zero this]; rfl
 ·rfl
def andW (x y : W64) : List W64 := if (wl x).length = 0 ∨ (wl y).length = 0 then [] else [x &&& y]
def andLs (x y : W64) (k : Nat) : List W64 := if k = 0 then List.replicate (andW x y).length 0 else andW x y
theorem and_min (x y : W64) : min (wl x).length (wl y).length = (andW x y).length := by
 have h1 := wl_len x
 have h2 := wl_len y
 unfold andW
 split
 ·rw [List.length_nil]; omega
 ·rw [List.length_singleton]; omega
theorem andW_len (x y : W64) : (andW x y).length ≤ 1 := by unfold andW; split <;> simp
theorem and_start {x y : W64} (h : (0 : Int) < ((andW x y).length : Int)) : andLs x y 0 = [0] ∧ andW x y = [x &&& y] ∧ 0 < (wl x).length ∧ 0 < (wl y).length := by
 by_cases h0 : (wl x).length = 0 ∨ (wl y).length = 0
 ·rw [andW, if_pos h0] at h; simp at h
 ·have e : andW x y = [x &&& y] := by rw [andW, if_neg h0]
  exact ⟨by rw [andLs, if_pos rfl, e]; rfl, e, by omega, by omega⟩
theorem and_one {x y : W64} (e : andW x y = [x &&& y]) : andLs x y 1 = ([0] : List W64).set 0 ((wl x).getD 0 0 &&& (wl y).getD 0 0) := by
 rw [andLs, if_neg (by decide), e, wl_get, wl_get]; rfl
theorem and_end {x y : W64} {k : Nat} (h : ¬ (k : Int) < ((andW x y).length : Int)) : andLs x y k = andW x y := by
 unfold andLs
 split
 ·rename_i h0
  subst h0
  have : (andW x y).length = 0 := by omega
  rw [this, List.eq_nil_of_length_eq_zero this]; rfl
 ·rfl
theorem and_get (x y : W64) : (andW x y).getD 0 0 = x &&& y := by
 unfold andW
 split
 ·rename_i h
  rcases h with h | h
  ·rcases wl_cases x with ⟨e, _⟩ | ⟨_, e⟩
   ·rw [e]; simp
   ·rw [e] at h; simp at h
  ·rcases wl_cases y with ⟨e, _⟩ | ⟨_, e⟩
   ·rw [e]; simp
   ·rw [e] at h; simp at h
 ·rfl
/-! The members, ascending. -/
def memW (x : W64) (k : Nat) : List Int := ((List.range k).filter fun i => x.getLsbD i).map fun (i : Nat) => (i : Int)
theorem mem_yes {x : W64} {k : Nat} (h : x.getLsbD k = true) : memW x (k + 1) = memW x k ++ [(k : Int)] := by
 unfold memW
 rw [List.range_succ, List.filter_append, List.map_append]; simp [h]
theorem mem_no {x : W64} {k : Nat} (h : x.getLsbD k = false) : memW x (k + 1) = memW x k := by
 unfold memW
 rw [List.range_succ, List.filter_append, List.map_append]; simp [h]
theorem memW_ok (x : W64) : ∀ p ∈ memW x 64, 0 ≤ p ∧ p < 64 := by
 intro p hp
 obtain ⟨i, hi, rfl⟩ := List.mem_map.1 hp
 have := List.mem_range.1 (List.mem_filter.1 hi).1
 omega
theorem ofW_get (l : List Int) (h : ∀ p ∈ l, 0 ≤ p ∧ p < 64) (j : Nat) : (ofW l).getLsbD j = l.any fun p => p == (j : Int) := by
 have gen : ∀ (l : List Int) (x : W64), (∀ p ∈ l, 0 ≤ p ∧ p < 64) → (l.foldl (fun x i => x ||| oneW i.toNat) x).getLsbD j = (x.getLsbD j || l.any fun p => p == (j : Int)) := by
  intro l
  induction l with
  | nil => intro x _; simp
  | cons a r ih =>
   intro x hl
   have ha := hl a (by simp)
   rw [List.foldl_cons, ih _ (fun p hp => hl p (by simp [hp])), BitVec.getLsbD_or, oneW_get _ _ (by omega), List.any_cons, Bool.or_assoc]
   congr 2
   rw [Bool.eq_iff_iff]; simp; omega
 have := gen l 0 h
 unfold ofW
 rw [this]; simp
section
variable {P : Program} {fr : Fr} {w : World} {d : Option Nat} {t : TypeId} {ps : String} {af : Array Edge} {g : Option (Nat × Bool)} {x y z : Operand} {T U : TypeId}
theorem o_uremU {a b : W64} (hx : ev fr x = u64 a) (hy : ev fr y = u64 b) (hb : b ≠ 0) : xop P fr w ⟨d, .binOp .rem T x y U, t, ps, af, g⟩ = .ok (.value (u64 (a % b))) w := by
 have h0 : (b.toNat : Int) ≠ 0 := by
  intro h
  apply hb
  apply BitVec.eq_of_toNat_eq
  have : b.toNat = 0 := by omega
  rw [this]; rfl
 have e : (a.toNat : Int).tmod (b.toNat : Int) = ((a % b).toNat : Int) := by
  rw [Int.tmod_eq_emod_of_nonneg (by omega), BitVec.toNat_umod, Int.natCast_emod]
 have h1 : ¬ (b.toNat = 0) := by omega
 simp [xop, execOp, hx, hy, u64, eqGuard, binOp, Op.intDiv, h0, h1, e]
 try omega
end
