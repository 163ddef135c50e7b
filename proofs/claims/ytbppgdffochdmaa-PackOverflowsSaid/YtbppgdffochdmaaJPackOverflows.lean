/- PackOverflows: the plain proof and the walk, joined. -/
import Derived.Test.YtbppgdffochdmaaP24e
import Derived.Test.YtbppgdffochdmaaGw4
import Derived.Test.YtbppgdffochdmaaLiftA
namespace Go.Proofs.Ytbppgdffochdmaa
open Go.RowKit Q
theorem law_PackOverflows (a0 : Int) (w : World) (b0 : -128 ≤ a0 ∧ a0 ≤ 127) :
    Calls Try.prog 7 #[.int .i8 a0] w fun e w' => e = .returned (.bool true) ∧ Below w.heap.size w w' := by
  obtain ⟨r, h, rfl⟩ := pl_PackOverflows a0 b0
  refine law_close (law24_PackOverflows_ok a0 true h) (fun h => by cases h) rfl ?_
  intro i x v hx hv
  match i with
  | 0 =>
    have hx' : _ = x := Option.some.inj hx
    have hv' : _ = v := Option.some.inj hv
    subst hx'; subst hv'
    exact Tr.int _ _
  | i + 1 => simp at hx
end Go.Proofs.Ytbppgdffochdmaa
