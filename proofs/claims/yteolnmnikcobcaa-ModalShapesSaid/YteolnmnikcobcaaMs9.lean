/- ModalShapes of the given program answers true Part 9 of 10. -/
import Derived.Test.YteolnmnikcobcaaMs8
namespace Go.Proofs
open Go Go.Sx Go.RowKit
set_option maxRecDepth 100000
theorem run29 : isT ((ev tab 3000).call { ro := fun _ => none, m0 := 0, rnd := false } 29 [] Mem.nil) = true := by kernel_rfl
theorem awake29 (w : World) : Calls Try.prog 29 #[] w (fun e w' => e = .returned (.bool true) ∧ Below w.heap.size w w') := by
  obtain ⟨M, h⟩ := isT_some run29
  exact closed_call tabOK h w
end Go.Proofs
