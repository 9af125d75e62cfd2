/- ModalShapes of the given program answers true Part 8 of 10. -/
import Derived.Test.YteolnmnikcobcaaMs7
namespace Go.Proofs
open Go Go.Sx Go.RowKit
set_option maxRecDepth 100000
def isT : Option (AV × Mem) → Bool | some (.bool true, _) => true | _ => false
theorem isT_some {r : Option (AV × Mem)} (h : isT r = true) : ∃ M, r = some (.bool true, M) := by
  unfold isT at h
  split at h
  · exact ⟨_, rfl⟩
  · cases h
theorem run6 : isT ((ev tab 3000).call { ro := fun _ => none, m0 := 0, rnd := false } 6 [] Mem.nil) = true := by kernel_rfl
theorem awake6 (w : World) : Calls Try.prog 6 #[] w (fun e w' => e = .returned (.bool true) ∧ Below w.heap.size w w') := by
  obtain ⟨M, h⟩ := isT_some run6
  exact closed_call tabOK h w
end Go.Proofs
