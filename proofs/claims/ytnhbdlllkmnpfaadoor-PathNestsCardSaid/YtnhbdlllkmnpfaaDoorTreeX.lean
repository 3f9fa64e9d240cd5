/- maps.clone, at this translation. -/
import Derived.Test.YtnhbdlllkmnpfaaDoorSet
import Derived.Test.YtnhbdlllkmnpfaaDoorExt
namespace Go.Proofs.YtnhbdlllkmnpfaaDoor
open Go Go.Lx
set_option maxRecDepth 10000
theorem x_clone (b : Nat) (es : Array MapEntry) (c : Nat) (w : World) (hb : w.heap[b]? = some (.map es c)) : (callFunc 80 #[.iface 79 (.map (some b))]).run Tryd.prog w = .ok (.value (.iface 79 (.map (some w.heap.size)))) (w.alloc (.map es c)) := by
  rw [run_callFunc_extern Tryd.func80 (by kernel_rfl) (by kernel_rfl) (by kernel_rfl) (e := Extern.MapsClone.clone) (by kernel_rfl)]
  obtain ⟨f, e1, e2⟩ : ∃ f, Extern.MapsClone.clone #[.iface 79 (.map (some b))] = (getObj b >>= f) ∧ ∀ es c, f (.map es c) = (newObj (.map es c) >>= fun n => pure (.iface 79 (.map (some n)))) := ⟨_, rfl, fun _ _ => rfl⟩
  rw [e1]
  simp [MapKept.run_getObj_map hb, e2, newObj, Sem.run]
end Go.Proofs.YtnhbdlllkmnpfaaDoor
