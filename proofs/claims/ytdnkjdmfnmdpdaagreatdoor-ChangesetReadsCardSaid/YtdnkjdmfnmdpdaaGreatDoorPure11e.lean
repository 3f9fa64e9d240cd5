/- Several texts in one file. -/
import Derived.Test.YtdnkjdmfnmdpdaaGreatDoorStr
import Derived.Test.YtdnkjdmfnmdpdaaGreatDoorMore
import Derived.Carry
import Derived.ProofKit
import Derived.OpenShut
set_option linter.unusedSimpArgs false
set_option linter.unusedVariables false
set_option linter.unnecessarySimpa false
/- The plain laws of permissions. Nothing of a program stands here. -/
namespace Go.Lx
open Go
structure RawV where
 act : UInt8
 a : Option Addr
 c : Nat
 names : List UInt8
 deep : Bool
def RawV.perm (x : RawV) : Perm := ⟨actionS x.act, pathS x.names, x.deep⟩
theorem RawV.ok (x : RawV) : x.perm.ok := ⟨by have := actionS_len x.act; show (actionS x.act).length ≤ _; omega, by have := pathS_len x.names; show (pathS x.names).length ≤ _; omega⟩
/-! the chapter's example -/
/-! covering -/
/-! the laws' conditions, as the code puts them -/
end Go.Lx
/- Permissions, more: the text of a permission is read back. Nothing of a program stands here. -/
namespace Go.Lx
open Go
theorem textS_len (x : Perm) : (textS x).length ≤ x.act.length + x.path.length + 3 := by
 unfold textS
 split
 ·simp
 ·split
  ·simp; omega
  ·split <;> (simp; try omega)
end Go.Lx
/- Lists of permissions: the normal list covers the same; two normal lists are equal exactly if they imply the same; what is common, what is beyond. Nothing of a program stands here. -/
namespace Go.Lx
open Go
end Go.Lx
/- From the row's reading of the arguments to slices told by lists; and the closing of a law. Nothing of a program stands here. -/
namespace Go.Lx
open Go Go.RowKit Go.ChangeShapes Go.WideShapes Go.ChangeAt
section
variable {H : Type} {enc : TypeId × Value → H} {P : Program} {w : World} {sp : Nat → Bool} {held : Bool} {fuel : Nat} {T e : TypeId}
theorem cells_get {a : Addr} {n : Nat} {cs : List Value} (h : w.cells? 0 a n = some cs) : cs.length = n ∧ ∀ j v, cs[j]? = some v → w.cell? (a.add j) = some v := by
 unfold World.cells? at h
 rw [if_pos (Nat.zero_le _)] at h
 have h1 := mapM_some_length h
 rw [List.length_range] at h1
 refine ⟨h1, fun j v hj => ?_⟩
 have hlt : j < n := by have := (List.getElem?_eq_some_iff.1 hj).1; omega
 rw [mapM_some_get h j j (by rw [List.getElem?_range hlt]), hj]
theorem cell_plain {a : Addr} {v : Value} (h : w.cell? a = some v) : a.spot = none ∧ a.block < w.heap.size := by
 refine ⟨?_, World.block_lt_of_cell? w a h⟩
 unfold World.cell? at h
 split at h
 ·split at h
  ·cases h
  ·rename_i hs; simpa using hs
 ·cases h
theorem add_block (a : Addr) (j : Nat) : (a.add j).block = a.block := by unfold Addr.add; split <;> rfl
theorem open_sl {α : Type} {ec : α → List Value} {k : Nat} {R : α → Prop} {v : Value} {x : DataW H × List MemPlace} (hT : P.underlying T = some (.slice e)) (hk : P.cellsOf e = k) (hpos : 0 < k) (hlen : ∀ z, (ec z).length = k)
  (hel : ∀ (n : Nat) (cs : List Value) (y : DataW H × List MemPlace), DataW.trod enc P w 0 sp held n e cs = some y → ∃ z, cs = ec z ∧ R z) (h : DataW.trod enc P w 0 sp held fuel T [v] = some x) :
  ∃ a c l, v = .slice a l.length c ∧ Sl ec k (Lt w.heap.size) w a c l ∧ ∀ z ∈ l, R z := by
 rcases DataW.trod_slice hT h with ⟨h1, _⟩ | ⟨a, len, cap, elems, rest, n, _, h1, _, _, h4, h5, h6, h7, _, _⟩
 ·simp at h1
  subst h1
  exact ⟨none, 0, [], rfl, Sl.none, fun z hz => by simp at hz⟩
 ·simp at h1
  subst h1
  have hall : ∀ i, i < len → ∃ z, R z ∧ w.cells? 0 (a.add (i * k)) k = some (ec z) := by
   intro i hi
   have h8 := h7 i hi
   rw [hk] at h8
   have h9 : elems[i]? = some elems[i] := List.getElem?_eq_getElem (by omega)
   rw [h9] at h8
   simp only [Option.bind_eq_some_iff] at h8
   obtain ⟨cs, g1, g2⟩ := h8
   obtain ⟨z, rfl, g4⟩ := hel n cs _ g2
   exact ⟨z, g4, g1⟩
  classical
  have hch : ∃ l : List α, l.length = len ∧ ∀ i z, l[i]? = some z → R z ∧ w.cells? 0 (a.add (i * k)) k = some (ec z) := by
   have hall' := hall
   revert hall'
   generalize len = m
   intro hall'
   induction m with
   | zero => exact ⟨[], rfl, fun i z hz => by simp at hz⟩
   | succ len ih =>
    obtain ⟨l, h1, h2⟩ := ih (fun i hi => hall' i (by omega))
    obtain ⟨z, g1, g2⟩ := hall' len (Nat.lt_succ_self _)
    refine ⟨l ++ [z], by simp [h1], fun i u hu => ?_⟩
    rw [List.getElem?_append] at hu
    split at hu
    ·exact h2 i u hu
    ·have : i = len := by
      have := (List.getElem?_eq_some_iff.1 hu).1
      simp at this; omega
     subst this
     rw [h1, Nat.sub_self] at hu
     simp at hu
     subst hu
     exact ⟨g1, g2⟩
  obtain ⟨l, hl, hz⟩ := hch
  refine ⟨some a, cap, l, by rw [hl], ⟨by omega, h5, (fun h => by cases h), ?_⟩, ?_⟩
  ·intro i z hi
   obtain ⟨_, g2⟩ := hz i z hi
   obtain ⟨g3, g4⟩ := cells_get g2
   have h0 : 0 < (ec z).length := by rw [hlen]; exact hpos
   have c0 := g4 0 (ec z)[0] (List.getElem?_eq_getElem h0)
   obtain ⟨s1, s2⟩ := cell_plain c0
   have hb : ((a.add (i * k)).add 0).block = a.block := by rw [add_block, add_block]
   rw [hb] at s2
   have hs : a.spot = none := by
    have hi0 : i < l.length := (List.getElem?_eq_some_iff.1 hi).1
    obtain ⟨_, q2⟩ := hz 0 l[0] (List.getElem?_eq_getElem (by omega))
    obtain ⟨_, q4⟩ := cells_get q2
    have h00 : 0 < (ec l[0]).length := by rw [hlen]; exact hpos
    have := (cell_plain (q4 0 (ec l[0])[0] (List.getElem?_eq_getElem h00))).1
    simpa [Addr.add] using this
   obtain ⟨b, off, spot⟩ := a
   simp only at hs
   subst hs
   refine ⟨b, off, rfl, ⟨s2, s2⟩, ?_, hlen z⟩
   intro j u hj
   have := g4 j u hj
   have e1 : ((⟨b, off, none⟩ : Addr).add (i * k)).add j = ⟨b, off + i * k + j, none⟩ := by
    unfold Addr.add
    by_cases h1 : i * k = 0 <;> by_cases h2 : j = 0 <;> simp [h1, h2]
   rwa [e1] at this
  ·intro z hzm
   obtain ⟨i, hi⟩ := List.mem_iff_getElem?.1 hzm
   exact (hz i z hi).1
theorem open_byte {T : TypeId} {n : Nat} {cs : List Value} {y : DataW H × List MemPlace} (hT : P.underlying T = some (.int .u8)) (h : DataW.trod enc P w 0 sp held n T cs = some y) : ∃ z : UInt8, cs = encB z ∧ True := by
 obtain ⟨m, h1, _, h3⟩ := DataW.trod_int hT h
 obtain ⟨b1, b2⟩ := bounds_u8 h3
 refine ⟨m.toNat.toUInt8, ?_, trivial⟩
 rw [h1, encB]
 have e : ((m.toNat.toUInt8).toNat : Int) = m := by
  have : (m.toNat.toUInt8).toNat = m.toNat := by
   simp [Nat.toUInt8, UInt8.toNat_ofNat]; omega
  rw [this]; omega
 rw [e]
theorem trods_stay (hl : laidOutB P = true) {W W' : World} (hb : Below W.heap.size W W') : ∀ {ts : List TypeId} {vs : List Value} {ds : List (DataW H)} {ps : List MemPlace}, (ts.all fun t => P.readableRec t && decide (t < P.types.size)) = true →
  DataW.TrodAll enc P W 0 (fun _ => true) true ts vs ds ps → (∀ x ∈ ps, x.block < W.heap.size) → ∀ sp : Nat → Bool, (∀ x ∈ ps, sp x.block = true) → DataW.TrodAll enc P W' 0 sp true ts vs ds ps
 | [], [], [], _, _, h, _, _, _ => h
 | [], [], _ :: _, _, _, h, _, _, _ => h.elim
 | [], _ :: _, _, _, _, h, _, _, _ => h.elim
 | _ :: _, [], _, _, _, h, _, _, _ => h.elim
 | _ :: _, _ :: _, [], _, _, h, _, _, _ => h.elim
 | t :: ts, v :: vs, d :: ds, ps, ht, h, hlt, sp, hsp => by
  obtain ⟨p, q, h1, h2, e⟩ := h
  simp only [List.all_cons, Bool.and_eq_true, decide_eq_true_eq] at ht
  refine ⟨p, q, WideElems.Trod_stays hl ht.1.1 ht.1.2 h1 (fun x hx => hb.same (hlt x (by rw [e]; simp [hx]))) (fun x hx => hsp x (by rw [e]; simp [hx])), ?_, e⟩
  exact trods_stay hl hb ht.2 h2 (fun x hx => hlt x (by rw [e]; simp [hx])) sp (fun x hx => hsp x (by rw [e]; simp [hx]))
theorem law_post {f : Func} {s : ChangeSpec} {W W' : World} {args : Array Value} {ds gs : List (DataW H)} {before : List MemPlace} {tb : TypeId} (hl : laidOutB P = true) (hp : (f.params.toList.all fun t => P.readableRec t && decide (t < P.types.size)) = true)
  (hv : s.vars = []) (hs : (s.fn H ds).results = [.lit (.bool true)] ∧ (s.fn H ds).args = ds ∧ (s.fn H ds).vars = []) (hr : f.resultTypes = #[tb]) (htb : P.underlying tb = some .bool)
  (hW : DataW.Whole enc P f.params.toList s.vars false W args.toList ds gs before) (hb : Below W.heap.size W W') :
  s.post enc P f false true false false W args (.bool true) W' := by
 have hlt : ∀ p ∈ before, p.block < W.heap.size := fun p hp => hW.lt p hp
 have hold : ∀ p ∈ before, (fun b => decide (b < W.heap.size)) p.block = true := fun p hp => by simpa using hlt p hp
 have hW' := hW
 obtain ⟨p, q, hA, hV, he, _, _⟩ := hW'
 rw [hv] at hV
 obtain ⟨rfl, rfl⟩ := trodVars_none hV
 rw [List.append_nil] at he
 obtain rfl := he
 have hds : ds ++ ([] : List (DataW H)) = ds := List.append_nil ds
 have hok : ∀ (j : Nat) (t : TypeId) (r : Value), f.resultTypes[j]? = some t → ((Value.bool true).resultList f.resultTypes.size)[j]? = some r → Value.okWide P W' .any 0 t r := ok_one hr rfl (okWide_bool_mk htb _)
 have hres : ∀ (b : Nat) (sp : Nat → Bool) (hd : Bool), DataW.TrodAll enc P W' b sp hd f.resultTypes.toList ((Value.bool true).resultList f.resultTypes.size) [.lit (.bool true)] [] := by
  intro b sp hd
  rw [hr]
  exact trodAll_mk1 (shut_bool htb _)
 have hargs := trods_stay hl hb hp hA hlt
 refine ⟨ds, [], before, [], before, [], hW, ?_, ?_, ?_, World.keptBut_mono (fun x hx => ⟨hx, .inr (.inl hx)⟩) (hb.frame (· ∈ before)), fun _ => ⟨hok, _, [], [] ++ before, ⟨[] ++ before, [], trodAll_append (hargs _ (fun _ _ => rfl)) (hres 0 _ true), ?_, by simp, ?_, fun h => by cases h⟩, fun x hx _ => by simpa using hx⟩⟩
 ·rw [hds, hs.1]; exact hres _ _ _
 ·rw [hds, hs.2.1]; exact hargs _ hold
 ·rw [hds, hs.2.2, hv]; rfl
 ·rw [hv]; rfl
 ·intro b off hx
  have hin : MemPlace.cell b off ∈ before := by simpa using hx
  rw [hb.frozen (hlt _ hin)]
  obtain ⟨_, _, _, _, _, hz, _⟩ := hW
  exact hz b off hin
end
end Go.Lx
