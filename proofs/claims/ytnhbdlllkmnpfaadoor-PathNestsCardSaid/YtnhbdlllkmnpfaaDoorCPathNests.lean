/- The law arbac/arbaclaw07.PathNests: for every input the call returns true, and each argument reads afterwards as it read before; the listed tables as the program's text lays them. -/
import Derived.Test.YtnhbdlllkmnpfaaDoorCards
import Derived.Test.YtnhbdlllkmnpfaaDoorTie
import Derived.Test.YtnhbdlllkmnpfaaDoorWopen07c
import Derived.Test.YtnhbdlllkmnpfaaDoorWlaw7h
import Derived.Test.YtnhbdlllkmnpfaaDoorWit
import Derived.Deep.DeepHandedRow
import Derived.Lib.LaidTab
import Derived.SevenTiedAt
namespace Go.Proofs.YtnhbdlllkmnpfaaDoor.pathNests
open Go Go.Lx Go.ChangeShapes Go.WideShapes Go.ChangeAt Go.RowKit
set_option maxRecDepth 100000
set_option linter.unusedVariables false
set_option linter.unusedSimpArgs false
set_option linter.unnecessarySimpa false
theorem own : ownKnob Tryd.prog.godebug = none := by kernel_rfl
theorem laidOut : laidOutB Tryd.prog = true := by kernel_rfl
theorem contract (H : Type) (enc : TypeId × Value → H) (W : World) (base : Nat) (args : Array Value) (ds gs : List (DataW H)) (before : List MemPlace)
    (hval : ∀ (j : Nat) t v, Tryd.f12.params[j]? = some t → args[j]? = some v → Value.okWide Tryd.prog W .any base t v)
    (hW : DataW.Whole enc Tryd.prog Tryd.f12.params.toList Rows.pathNestsSpec.vars false W args.toList ds gs before) :
    Calls Tryd.prog 12 args W fun e W' => ∃ v, e = .returned v ∧ Rows.pathNestsSpec.post enc Tryd.prog Tryd.f12 false true false false W args v W' := by
  have hW' := hW
  obtain ⟨p, q, hA0, hV, rfl, hfz, hnd⟩ := hW
  have hA : DataW.TrodAll enc Tryd.prog W 0 (fun _ => true) true Tryd.f12.params.toList args.toList ds p := hA0
  rw [Tryd.params12] at hA hval
  obtain ⟨la, hla⟩ : ∃ la, args.toList = la := ⟨_, rfl⟩
  rw [hla] at hA
  obtain ⟨w0, vs0, d0, ds0, p0, q0, hl0, rfl, hq0, h0, r0⟩ := trodAll_cons hA
  obtain ⟨rfl, rfl, rfl⟩ := trodAll_nil r0
  obtain rfl : args = #[w0] := by cases args; simp_all
  obtain ⟨v0, x0, rfl, hx0, hy0⟩ := open_bvs (hval 0 64 w0 rfl rfl) h0
  refine Calls.mono (law_PathNests W _ x0 hx0 hy0) ?_
  rintro e W' ⟨v, he, rfl, hb⟩
  exact ⟨_, he, law_post (tb := 4) laidOut (by kernel_rfl) rfl ⟨rfl, rfl, rfl⟩ rfl Tryd.underlying4 hW' hb.below⟩
def wArgs : Array Value := #[.slice none 0 0]
noncomputable def laidWorld (os : Os) : World :=
  let h0 := (World.holding Tryd.prog os ⟨#[], #[], []⟩).heap
  { World.holding Tryd.prog os ⟨#[], #[], []⟩ with heap := layIn (layIn (h0) 2 Rows.laid_unicode_utf8_acceptRanges) 1 Rows.laid_unicode_utf8_first }
theorem laid_met (os : Os) : laidMet Tryd.prog Rows.pathNestsRow.laid ((laidWorld os).forCall (fun _ _ => 0) ⟨#[], wArgs, []⟩).memory :=
  laidMet_of_run' 8 (by kernel_rfl) (by kernel_rfl)
theorem reads (os : Os) {H : Type} (enc : TypeId × Value → H) : ∃ places, DataW.whole enc Tryd.prog ((laidWorld os).forCall (fun _ _ => 0) ⟨#[], wArgs, []⟩).memory Tryd.f12.params.toList Rows.pathNestsSpec.vars false wArgs.toList 8 = some ([.nil], [], places) :=
  ⟨[], by kernel_rfl⟩
theorem lifted (os : Os) (started : os.Started) (H : Type) (enc : TypeId × Value → H) (F : Stop.Interp) :
    ReturnsInHanded {} Tryd.checked os 12 .any ((OpenSpec.ofChange Rows.pathNestsSpec).preRow enc Tryd.prog Tryd.f12 Rows.pathNestsRow.domain false Rows.pathNestsRow.laid) (((OpenSpec.ofChange Rows.pathNestsSpec).at F).post enc Tryd.prog Tryd.f12 false true false false) := by
  obtain ⟨places, hx⟩ := reads os enc
  refine returnsInHanded_of_row (C := Tryd.checked) (s := OpenSpec.ofChange Rows.pathNestsSpec) own started (by kernel_rfl) Tryd.func12
    (witness_row_at (enc := enc) (C := Tryd.checked) false (laidWorld os) wArgs rfl (by kernel_rfl) (by kernel_rfl) (by kernel_rfl)
      (OpenSpec.preRow_of_cond 8 hx (by kernel_rfl) (fun k hk => by cases hk) (by kernel_rfl) (laid_met os))) ?_
  intro W base args ds gs before hval hW _ _ _ hL _ _
  exact contract H enc W base args ds gs before hval hW
theorem said : Rows.PathNestsSaid :=
  OpenClaim.holds_of_cond 12 Tryd.f12 rfl rfl rfl rfl rfl rfl rfl ⟨rfl, rfl, rfl, rfl, rfl⟩ rfl rfl rfl rfl rfl (by kernel_rfl) Tryd.func12 (by kernel_rfl)
    (of_decide_eq_true (by kernel_rfl)) (by unfold Func.isWrapper; first | (rw [if_pos (by decide +kernel)]; kernel_rfl) | (rw [if_neg (by decide +kernel)]; exact ⟨rfl, rfl⟩))
    (fun os started H enc _ F => by rw [OpenClaim.pre_eq_preRow]; exact lifted os started H enc F)
theorem plain (f : FuncId) (fn : Func) (hf : Tryd.pinned.checked.prog.funcNamed Tryd.f12.name = some f) (hfn : Tryd.pinned.checked.prog.funcs[f]? = some fn) :
    true = Tryd.pinned.checked.prog.looks [] ∧ ∀ (j : Nat) t, fn.params[j]? = some t → Tryd.pinned.checked.prog.wantsStandIn t = false := by
  obtain rfl : f = 12 := Option.some.inj ((show Tryd.prog.funcNamed Tryd.f12.name = some 12 by kernel_rfl).symm.trans hf) |>.symm
  obtain rfl : fn = Tryd.f12 := (Option.some.inj (Tryd.func12.symm.trans hfn)).symm
  refine ⟨by kernel_rfl, fun j t ht => ?_⟩
  rw [Tryd.params12] at ht
  have hm : t ∈ [64] := by simpa using Array.mem_of_getElem? ht
  have hall : ([64].all fun u => !Tryd.prog.wantsStandIn u) = true := by kernel_rfl
  exact (show Tryd.prog.wantsStandIn t = false by simpa using List.all_eq_true.1 hall t hm)
end Go.Proofs.YtnhbdlllkmnpfaaDoor.pathNests
namespace Go.Proofs.YtnhbdlllkmnpfaaDoor
open Go
set_option maxRecDepth 100000
theorem pathNests_card : Rows.PathNestsCardSaid :=
  Claim7.holds_tied_plain_at .later [] _ _ _ _ pathNests.said (fun _ h => by cases h) (by kernel_rfl) (fun _ h => by cases h) pathNests_row_tie rfl ⟨rfl, rfl⟩ (by kernel_rfl) rfl pathNests.plain (by kernel_rfl)
end Go.Proofs.YtnhbdlllkmnpfaaDoor
