/- The law arbac/arbaclaw51.MergeResolves: for every input the call returns true, and each argument reads afterwards as it read before; the listed tables as the program's text lays them. -/
import Derived.Test.YtecjjgljkepajaaGreatDoorCards
import Derived.Test.YtecjjgljkepajaaGreatDoorTie
import Derived.Test.YtecjjgljkepajaaGreatDoorWopen51
import Derived.Test.YtecjjgljkepajaaGreatDoorWlm2
import Derived.Test.YtecjjgljkepajaaGreatDoorPure11e
import Derived.SizedLaws
import Derived.Deep.DeepHandedRow
import Derived.Lib.LaidTab
import Derived.SevenTiedAt
set_option linter.unusedVariables false
set_option linter.unusedSimpArgs false
set_option linter.unnecessarySimpa false
namespace Go.Proofs.YtecjjgljkepajaaGreatDoor.mergeResolves
open Go Go.Lx Go.ChangeShapes Go.WideShapes Go.ChangeAt Go.RowKit
set_option maxRecDepth 100000
theorem own : ownKnob Tryz.prog.godebug = none := by kernel_rfl
theorem laidOut : laidOutB Tryz.prog = true := by kernel_rfl
theorem contract (H : Type) (enc : TypeId × Value → H) (W : World) (base : Nat) (args : Array Value) (ds gs : List (DataW H)) (before : List MemPlace)
  (hval : ∀ (j : Nat) t v, Tryz.f4.params[j]? = some t → args[j]? = some v → Value.okWide Tryz.prog W .any base t v)
  (hW : DataW.Whole enc Tryz.prog Tryz.f4.params.toList Rows.mergeResolvesSpec.vars false W args.toList ds gs before) (hwt : ∀ (j : Nat) t d n, Tryz.f4.params.toList[j]? = some t → ds[j]? = some d → n ∈ DataW.weights Tryz.prog t d → n ≤ reachBytes) :
  Calls Tryz.prog 4 args W fun e W' => ∃ v, e = .returned v ∧ Rows.mergeResolvesSpec.post enc Tryz.prog Tryz.f4 false true false false W args v W' := by
 have hW' := hW
 obtain ⟨p, q, hA0, hV, rfl, hfz, hnd⟩ := hW
 have hA : DataW.TrodAll enc Tryz.prog W 0 (fun _ => true) true Tryz.f4.params.toList args.toList ds p := hA0
 rw [Tryz.params4] at hA hval hwt
 obtain ⟨la, hla⟩ : ∃ la, args.toList = la := ⟨_, rfl⟩
 rw [hla] at hA
 obtain ⟨w0, vs0, d0, ds0, p0, q0, hl0, rfl, hq0, h0, r0⟩ := trodAll_cons hA
 obtain ⟨w1, vs1, d1, ds1, p1, q1, rfl, rfl, rfl, h1, r1⟩ := trodAll_cons r0
 obtain ⟨rfl, rfl, rfl⟩ := trodAll_nil r1
 obtain rfl : args = #[w0, w1] := by cases args; simp_all
 obtain ⟨v0, x0, rfl, hx0⟩ := open_bytes (hval 0 22 w0 rfl rfl) h0
 obtain ⟨a1, a2, a3, c1, c2, c3, l, m, ch, fit, rfl, hl0, hm0, hc0, hw0⟩ := open_choice (hval 1 44 w1 rfl rfl) h1
 refine Calls.mono (law_MergeResolves W _ x0 hx0 a1 a2 a3 c1 c2 c3 l m ch fit hl0 hm0 hc0 (by rcases Nat.eq_zero_or_pos ch.length with h0 | h0; exact h0 ▸ Nat.zero_le _; obtain ⟨n, hn, hle⟩ := hw0 (by omega); have := hwt 1 _ _ n rfl rfl hn; simp only [reachBytes] at this; omega)) ?_
 rintro e W' ⟨v, he, rfl, hb⟩
 exact ⟨_, he, law_post (tb := 4) laidOut (by kernel_rfl) rfl ⟨rfl, rfl, rfl⟩ rfl Tryz.underlying4 hW' hb.below⟩
def wArgs : Array Value := #[.slice none 0 0, .agg #[.slice none 0 0, .slice none 0 0, .slice none 0 0, .bool false]]
noncomputable def laidWorld (os : Os) : World :=
 let h0 := (World.holding Tryz.prog os ⟨#[], #[], []⟩).heap
 { World.holding Tryz.prog os ⟨#[], #[], []⟩ with heap := layIn (layIn (h0) 2 Rows.laid_unicode_utf8_acceptRanges) 1 Rows.laid_unicode_utf8_first }
theorem laid_met (os : Os) : laidMet Tryz.prog Rows.mergeResolvesRow.laid ((laidWorld os).forCall (fun _ _ => 0) ⟨#[], wArgs, []⟩).memory :=
 laidMet_of_run' 8 (by kernel_rfl) (by kernel_rfl)
theorem reads (os : Os) {H : Type} (enc : TypeId × Value → H) : ∃ places, DataW.whole enc Tryz.prog ((laidWorld os).forCall (fun _ _ => 0) ⟨#[], wArgs, []⟩).memory Tryz.f4.params.toList Rows.mergeResolvesSpec.vars false wArgs.toList 8 = some ([.nil, .agg [.nil, .nil, .nil, .lit (.bool false)]], [], places) :=
 ⟨[], by kernel_rfl⟩
theorem lifted (os : Os) (started : os.Started) (H : Type) (enc : TypeId × Value → H) (F : Stop.Interp) :
  ReturnsInHanded {} Tryz.checked os 4 .any ((OpenSpec.ofChange Rows.mergeResolvesSpec).preRow enc Tryz.prog Tryz.f4 Rows.mergeResolvesRow.domain false Rows.mergeResolvesRow.laid) (((OpenSpec.ofChange Rows.mergeResolvesSpec).at F).post enc Tryz.prog Tryz.f4 false true false false) := by
 obtain ⟨places, hx⟩ := reads os enc
 refine returnsInHanded_of_row (C := Tryz.checked) (s := OpenSpec.ofChange Rows.mergeResolvesSpec) own started (by kernel_rfl) Tryz.func4
  (witness_row_at (enc := enc) (C := Tryz.checked) false (laidWorld os) wArgs rfl (by kernel_rfl) (by kernel_rfl) (by kernel_rfl)
   (OpenSpec.preRow_of_cond 8 hx (by kernel_rfl) (fun k hk => by cases hk) (by kernel_rfl) (laid_met os))) ?_
 intro W base args ds gs before hval hW _ _ hwt hL _ _
 exact contract H enc W base args ds gs before hval hW (fun j t d n ht hd hn => of_decide_eq_true (List.all_eq_true.1 hwt n (DataW.weights_mem_each (by rw [List.getElem?_append_left (List.getElem?_eq_some_iff.1 ht).1]; exact ht) (by rw [List.getElem?_append_left (List.getElem?_eq_some_iff.1 hd).1]; exact hd) n hn)))
theorem said : Rows.MergeResolvesSaid :=
 OpenClaim.holds_of_cond 4 Tryz.f4 rfl rfl rfl rfl rfl rfl rfl ⟨rfl, rfl, rfl, rfl, rfl⟩ rfl rfl rfl rfl rfl (by kernel_rfl) Tryz.func4 (by kernel_rfl)
  (of_decide_eq_true (by kernel_rfl)) (by unfold Func.isWrapper; first | (rw [if_pos (by decide +kernel)]; kernel_rfl) | (rw [if_neg (by decide +kernel)]; exact ⟨rfl, rfl⟩))
  (fun os started H enc _ F => by rw [OpenClaim.pre_eq_preRow]; exact lifted os started H enc F)
theorem plain (f : FuncId) (fn : Func) (hf : Tryz.pinned.checked.prog.funcNamed Tryz.f4.name = some f) (hfn : Tryz.pinned.checked.prog.funcs[f]? = some fn) :
  false = Tryz.pinned.checked.prog.looks [] ∧ ∀ (j : Nat) t, fn.params[j]? = some t → Tryz.pinned.checked.prog.wantsStandIn t = false := by
 obtain rfl : f = 4 := Option.some.inj ((show Tryz.prog.funcNamed Tryz.f4.name = some 4 by kernel_rfl).symm.trans hf) |>.symm
 obtain rfl : fn = Tryz.f4 := (Option.some.inj (Tryz.func4.symm.trans hfn)).symm
 refine ⟨by kernel_rfl, fun j t ht => ?_⟩
 rw [Tryz.params4] at ht
 have hm : t ∈ [22, 44] := by simpa using Array.mem_of_getElem? ht
 have hall : ([22, 44].all fun u => !Tryz.prog.wantsStandIn u) = true := by kernel_rfl
 exact (show Tryz.prog.wantsStandIn t = false by simpa using List.all_eq_true.1 hall t hm)
end Go.Proofs.YtecjjgljkepajaaGreatDoor.mergeResolves
namespace Go.Proofs.YtecjjgljkepajaaGreatDoor
open Go
set_option maxRecDepth 100000
theorem mergeResolves_card : Rows.MergeResolvesCardSaid :=
 Claim7.holds_tied_plain_at .later [] _ _ _ _ mergeResolves.said (fun _ h => by cases h) (by kernel_rfl) (fun _ h => by cases h) mergeResolves_row_tie rfl ⟨rfl, rfl⟩ (by kernel_rfl) rfl mergeResolves.plain (by kernel_rfl)
end Go.Proofs.YtecjjgljkepajaaGreatDoor
