/- Frames: where the ranges of the baseline lie; finishing; padding; the laws. -/
import Derived.Test.YtlhaoijkffhafaaGreatDoorP24b
set_option linter.unusedVariables false
set_option linter.unusedSimpArgs false
namespace Go.Proofs.YtlhaoijkffhafaaGreatDoor.Q
section
variable {l : List ASlot} {e : Int}
end
theorem clone_sp (l : List Int) (hl : l.length ≤ 1000000) : WP (slices_Clone___int_int_ l) (· = l) := by
  unfold slices_Clone___int_int_
  refine WP.both l (fun h => ?_) ?_ rfl
  · exact WP.ret h.symm
  · refine WP.chk (by simp only [List.length_nil]; omega) fun _ => ?_
    exact WP.ret rfl
/-! ### The scene's frame -/
end Go.Proofs.YtlhaoijkffhafaaGreatDoor.Q
