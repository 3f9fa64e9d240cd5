/- The law arbac/arbaclaw22.SessionNil: for every input the call returns true, and each argument reads afterwards as it read before; the listed tables as the program's text lays them. -/
import Derived.Test.YtncmjgmlnnenhaaDoorCards
import Derived.Test.YtncmjgmlnnenhaaDoorTie
import Derived.Test.YtncmjgmlnnenhaaDoorWopen22
import Derived.Test.YtncmjgmlnnenhaaDoorWlaw22n
import Derived.Test.YtncmjgmlnnenhaaDoorWit
import Derived.Deep.DeepHandedRow
import Derived.Lib.LaidTab
import Derived.SevenTiedAt
namespace Go.Proofs.YtncmjgmlnnenhaaDoor.sessionNil
open Go Go.Lx Go.ChangeShapes Go.WideShapes Go.ChangeAt Go.RowKit
set_option maxRecDepth 100000
set_option linter.unusedVariables false
set_option linter.unusedSimpArgs false
set_option linter.unnecessarySimpa false
theorem own : ownKnob Tryd.prog.godebug = none := by kernel_rfl
theorem laidOut : laidOutB Tryd.prog = true := by kernel_rfl
theorem contract (H : Type) (enc : TypeId × Value → H) (W : World) (base : Nat) (args : Array Value) (ds gs : List (DataW H)) (before : List MemPlace)
    (hval : ∀ (j : Nat) t v, Tryd.f7.params[j]? = some t → args[j]? = some v → Value.okWide Tryd.prog W .any base t v)
    (hW : DataW.Whole enc Tryd.prog Tryd.f7.params.toList Rows.sessionNilSpec.vars false W args.toList ds gs before) (hT : Tb W) :
    Calls Tryd.prog 7 args W fun e W' => ∃ v, e = .returned v ∧ Rows.sessionNilSpec.post enc Tryd.prog Tryd.f7 false true false false W args v W' := by
  have hW' := hW
  obtain ⟨p, q, hA0, hV, rfl, hfz, hnd⟩ := hW
  have hA : DataW.TrodAll enc Tryd.prog W 0 (fun _ => true) true Tryd.f7.params.toList args.toList ds p := hA0
  rw [Tryd.params7] at hA hval
  obtain ⟨la, hla⟩ : ∃ la, args.toList = la := ⟨_, rfl⟩
  rw [hla] at hA
  obtain ⟨w0, vs0, d0, ds0, p0, q0, hl0, rfl, hq0, h0, r0⟩ := trodAll_cons hA
  obtain ⟨rfl, rfl, rfl⟩ := trodAll_nil r0
  obtain rfl : args = #[w0] := by cases args; simp_all
  obtain ⟨x0, rfl, hx0⟩ := open_op (hval 0 68 w0 rfl rfl) h0
  refine Calls.mono (law_SessionNil W hT x0 hx0) ?_
  rintro e W' ⟨v, he, rfl, hb⟩
  exact ⟨_, he, law_post (tb := 4) laidOut (by kernel_rfl) rfl ⟨rfl, rfl, rfl⟩ rfl Tryd.underlying4 hW' hb.below⟩
def wArgs : Array Value := #[.agg #[.int .u8 0, .int .u8 0, .int .i64 0, .int .i64 0]]
noncomputable def laidWorld (os : Os) : World :=
  let h0 := (World.holding Tryd.prog os ⟨#[], #[], []⟩).heap
  { World.holding Tryd.prog os ⟨#[], #[], []⟩ with heap := layIn (h0) 0 Rows.laid_math_bits_deBruijn64tab }
theorem laid_met (os : Os) : laidMet Tryd.prog Rows.sessionNilRow.laid ((laidWorld os).forCall (fun _ _ => 0) ⟨#[], wArgs, []⟩).memory :=
  laidMet_of_run' 8 (by kernel_rfl) (by kernel_rfl)
theorem reads (os : Os) {H : Type} (enc : TypeId × Value → H) : ∃ places, DataW.whole enc Tryd.prog ((laidWorld os).forCall (fun _ _ => 0) ⟨#[], wArgs, []⟩).memory Tryd.f7.params.toList Rows.sessionNilSpec.vars false wArgs.toList 8 = some ([.agg [.lit (.int .u8 0), .lit (.int .u8 0), .lit (.int .i64 0), .lit (.int .i64 0)]], [], places) :=
  ⟨[], by kernel_rfl⟩
theorem lifted (os : Os) (started : os.Started) (H : Type) (enc : TypeId × Value → H) (F : Stop.Interp) :
    ReturnsInHanded {} Tryd.checked os 7 .any ((OpenSpec.ofChange Rows.sessionNilSpec).preRow enc Tryd.prog Tryd.f7 Rows.sessionNilRow.domain false Rows.sessionNilRow.laid) (((OpenSpec.ofChange Rows.sessionNilSpec).at F).post enc Tryd.prog Tryd.f7 false true false false) := by
  obtain ⟨places, hx⟩ := reads os enc
  refine returnsInHanded_of_row (C := Tryd.checked) (s := OpenSpec.ofChange Rows.sessionNilSpec) own started (by kernel_rfl) Tryd.func7
    (witness_row_at (enc := enc) (C := Tryd.checked) false (laidWorld os) wArgs rfl (by kernel_rfl) (by kernel_rfl) (by kernel_rfl)
      (OpenSpec.preRow_of_cond 8 hx (by kernel_rfl) (fun k hk => by cases hk) (by kernel_rfl) (laid_met os))) ?_
  intro W base args ds gs before hval hW _ _ _ hL _ _
  exact contract H enc W base args ds gs before hval hW (tb_of hL)
theorem said : Rows.SessionNilSaid :=
  OpenClaim.holds_of_cond 7 Tryd.f7 rfl rfl rfl rfl rfl rfl rfl ⟨rfl, rfl, rfl, rfl, rfl⟩ rfl rfl rfl rfl rfl (by kernel_rfl) Tryd.func7 (by kernel_rfl)
    (of_decide_eq_true (by kernel_rfl)) (by unfold Func.isWrapper; first | (rw [if_pos (by decide +kernel)]; kernel_rfl) | (rw [if_neg (by decide +kernel)]; exact ⟨rfl, rfl⟩))
    (fun os started H enc _ F => by rw [OpenClaim.pre_eq_preRow]; exact lifted os started H enc F)
theorem plain (f : FuncId) (fn : Func) (hf : Tryd.pinned.checked.prog.funcNamed Tryd.f7.name = some f) (hfn : Tryd.pinned.checked.prog.funcs[f]? = some fn) :
    false = Tryd.pinned.checked.prog.looks [] ∧ ∀ (j : Nat) t, fn.params[j]? = some t → Tryd.pinned.checked.prog.wantsStandIn t = false := by
  obtain rfl : f = 7 := Option.some.inj ((show Tryd.prog.funcNamed Tryd.f7.name = some 7 by kernel_rfl).symm.trans hf) |>.symm
  obtain rfl : fn = Tryd.f7 := (Option.some.inj (Tryd.func7.symm.trans hfn)).symm
  refine ⟨by kernel_rfl, fun j t ht => ?_⟩
  rw [Tryd.params7] at ht
  have hm : t ∈ [68] := by simpa using Array.mem_of_getElem? ht
  have hall : ([68].all fun u => !Tryd.prog.wantsStandIn u) = true := by kernel_rfl
  exact (show Tryd.prog.wantsStandIn t = false by simpa using List.all_eq_true.1 hall t hm)
end Go.Proofs.YtncmjgmlnnenhaaDoor.sessionNil
namespace Go.Proofs.YtncmjgmlnnenhaaDoor
open Go
set_option maxRecDepth 100000
theorem sessionNil_card : Rows.SessionNilCardSaid :=
  Claim7.holds_tied_plain_at .later [] _ _ _ _ sessionNil.said (fun _ h => by cases h) (by kernel_rfl) (fun _ h => by cases h) sessionNil_row_tie rfl ⟨rfl, rfl⟩ (by kernel_rfl) rfl sessionNil.plain (by kernel_rfl)
end Go.Proofs.YtncmjgmlnnenhaaDoor
