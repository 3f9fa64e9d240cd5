/- The law arbac/arbaclaw27.CompileTrie: for every input the call returns true, and each argument reads afterwards as it read before; the listed tables as the program's text lays them, where what it reads is of bulk at most 1048576. -/
import Derived.Test.YtgmpgfokblehdaaGreatDoorCards
import Derived.Test.YtgmpgfokblehdaaGreatDoorTie
import Derived.Test.YtgmpgfokblehdaaGreatDoorWopen27
import Derived.Deep.DeepHandedRow
set_option linter.unusedVariables false
set_option linter.unusedSimpArgs false
set_option linter.unnecessarySimpa false
namespace Go.Proofs.YtgmpgfokblehdaaGreatDoor.compileTrieUpto
open Go Go.Lx Go.ChangeShapes Go.WideShapes Go.ChangeAt Go.RowKit
set_option maxRecDepth 100000
theorem own : ownKnob Tryz.prog.godebug = none := by kernel_rfl
theorem laidOut : laidOutB Tryz.prog = true := by kernel_rfl
theorem contract (H : Type) (enc : TypeId × Value → H) (W : World) (base : Nat) (args : Array Value) (ds gs : List (DataW H)) (before : List MemPlace)
  (hval : ∀ (j : Nat) t v, Tryz.f3.params[j]? = some t → args[j]? = some v → Value.okWide Tryz.prog W .any base t v)
  (hW : DataW.Whole enc Tryz.prog Tryz.f3.params.toList Rows.compileTrieSpec.vars false W args.toList ds gs before) (hT : Tb W) (hcond : Rows.uptoSmall H (ds ++ gs) = true) :
  Calls Tryz.prog 3 args W fun e W' => ∃ v, e = .returned v ∧ Rows.compileTrieSpec.post enc Tryz.prog Tryz.f3 false true false false W args v W' := by
 have hW' := hW
 have hbulk : Rows.uptoBulkAll (ds ++ gs) ≤ 1048576 := of_decide_eq_true hcond
 obtain ⟨p, q, hA0, hV, rfl, hfz, hnd⟩ := hW
 have hA : DataW.TrodAll enc Tryz.prog W 0 (fun _ => true) true Tryz.f3.params.toList args.toList ds p := hA0
 rw [Tryz.params3] at hA hval
 obtain ⟨la, hla⟩ : ∃ la, args.toList = la := ⟨_, rfl⟩
 rw [hla] at hA
 obtain ⟨w0, vs0, d0, ds0, p0, q0, hl0, rfl, hq0, h0, r0⟩ := trodAll_cons hA
 obtain ⟨w1, vs1, d1, ds1, p1, q1, rfl, rfl, rfl, h1, r1⟩ := trodAll_cons r0
 obtain ⟨w2, vs2, d2, ds2, p2, q2, rfl, rfl, rfl, h2, r2⟩ := trodAll_cons r1
 obtain ⟨rfl, rfl, rfl⟩ := trodAll_nil r2
 obtain rfl : args = #[w0, w1, w2] := by cases args; simp_all
 obtain ⟨v0, x0, rfl, hx0, hy0⟩ := open_gops (hval 0 22 w0 rfl rfl) h0
 obtain ⟨x1, rfl⟩ := open_u8 (hval 1 5 w1 rfl rfl) h1
 obtain ⟨a2, n2, x2, rfl, hx2, hy2⟩ := open_strsW (hval 2 23 w2 rfl rfl) h2
 simp only [List.cons_append, Rows.uptoBulkAll] at hbulk
 refine Calls.mono (law_CompileTrieUpto W hT _ x0 hx0 hy0 x1 a2 n2 x2 hx2 (by omega)) ?_
 rintro e W' ⟨v, he, rfl, hb⟩
 exact ⟨_, he, law_post (tb := 4) laidOut (by kernel_rfl) rfl ⟨rfl, rfl, rfl⟩ rfl Tryz.underlying4 hW' hb.below⟩
def wArgs : Array Value := #[.slice none 0 0, .int .u8 0, .slice none 0 0]
noncomputable def laidWorld (os : Os) : World :=
 let h0 := (World.holding Tryz.prog os ⟨#[], #[], []⟩).heap
 { World.holding Tryz.prog os ⟨#[], #[], []⟩ with heap := layIn (layIn (layIn (h0) 0 Rows.laid_math_bits_deBruijn64tab) 3 Rows.laid_unicode_utf8_acceptRanges) 2 Rows.laid_unicode_utf8_first }
theorem laid_met (os : Os) : laidMet Tryz.prog Rows.compileTrieUptoRow.laid ((laidWorld os).forCall (fun _ _ => 0) ⟨#[], wArgs, []⟩).memory :=
 laidMet_of_run' 8 (by kernel_rfl) (by kernel_rfl)
theorem reads (os : Os) {H : Type} (enc : TypeId × Value → H) : ∃ places, DataW.whole enc Tryz.prog ((laidWorld os).forCall (fun _ _ => 0) ⟨#[], wArgs, []⟩).memory Tryz.f3.params.toList Rows.compileTrieSpec.vars false wArgs.toList 8 = some ([.nil, .lit (.int .u8 0), .nil], [], places) :=
 ⟨[], by kernel_rfl⟩
theorem lifted (os : Os) (started : os.Started) (H : Type) (enc : TypeId × Value → H) (F : Stop.Interp) :
  ReturnsInHanded {} Tryz.checked os 3 .any ((Rows.OpenSpec.upto Rows.compileTrieSpec).preRow enc Tryz.prog Tryz.f3 Rows.compileTrieUptoRow.domain false Rows.compileTrieUptoRow.laid) (((Rows.OpenSpec.upto Rows.compileTrieSpec).at F).post enc Tryz.prog Tryz.f3 false true false false) := by
 obtain ⟨places, hx⟩ := reads os enc
 refine returnsInHanded_of_row (C := Tryz.checked) (s := (Rows.OpenSpec.upto Rows.compileTrieSpec)) own started (by kernel_rfl) Tryz.func3
  (witness_row_at (enc := enc) (C := Tryz.checked) false (laidWorld os) wArgs rfl (by kernel_rfl) (by kernel_rfl) (by kernel_rfl)
   (OpenSpec.preRow_of_cond 8 hx (by kernel_rfl) (fun k hk => by cases hk; kernel_rfl) (by kernel_rfl) (laid_met os))) ?_
 intro W base args ds gs before hval hW _ hcond _ hL _ _
 exact contract H enc W base args ds gs before hval hW (tb_of hL) (hcond _ rfl)
theorem said : Rows.CompileTrieUptoSaid :=
 OpenClaim.holds_of_cond 3 Tryz.f3 rfl rfl rfl rfl rfl rfl rfl ⟨rfl, rfl, rfl, rfl, rfl⟩ rfl rfl rfl rfl rfl (by kernel_rfl) Tryz.func3 (by kernel_rfl)
  (of_decide_eq_true (by kernel_rfl)) (by unfold Func.isWrapper; first | (rw [if_pos (by decide +kernel)]; kernel_rfl) | (rw [if_neg (by decide +kernel)]; exact ⟨rfl, rfl⟩))
  (fun os started H enc _ F => by rw [OpenClaim.pre_eq_preRow]; exact lifted os started H enc F)
theorem plain (f : FuncId) (fn : Func) (hf : Tryz.pinned.checked.prog.funcNamed Tryz.f3.name = some f) (hfn : Tryz.pinned.checked.prog.funcs[f]? = some fn) :
  true = Tryz.pinned.checked.prog.looks [] ∧ ∀ (j : Nat) t, fn.params[j]? = some t → Tryz.pinned.checked.prog.wantsStandIn t = false := by
 obtain rfl : f = 3 := Option.some.inj ((show Tryz.prog.funcNamed Tryz.f3.name = some 3 by kernel_rfl).symm.trans hf) |>.symm
 obtain rfl : fn = Tryz.f3 := (Option.some.inj (Tryz.func3.symm.trans hfn)).symm
 refine ⟨by kernel_rfl, fun j t ht => ?_⟩
 rw [Tryz.params3] at ht
 have hm : t ∈ [22, 5, 23] := by simpa using Array.mem_of_getElem? ht
 have hall : ([22, 5, 23].all fun u => !Tryz.prog.wantsStandIn u) = true := by kernel_rfl
 exact (show Tryz.prog.wantsStandIn t = false by simpa using List.all_eq_true.1 hall t hm)
end Go.Proofs.YtgmpgfokblehdaaGreatDoor.compileTrieUpto
namespace Go.Proofs.YtgmpgfokblehdaaGreatDoor
open Go
set_option maxRecDepth 100000
theorem compileTrieUpto_card : Rows.CompileTrieUptoCardSaid :=
 Claim7.holds_tied_plain_at .later [] _ _ _ _ compileTrieUpto.said (fun _ h => by cases h) (by kernel_rfl) (fun _ h => by cases h) compileTrieUpto_row_tie rfl ⟨rfl, rfl⟩ (by kernel_rfl) rfl compileTrieUpto.plain (by kernel_rfl)
