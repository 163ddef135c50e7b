/- PackFinish: the plain proof and the walk, joined. -/
import Derived.Test.YtbppgdffochdmaaP24f
import Derived.Test.YtbppgdffochdmaaGwPackFinish2
import Derived.Test.YtbppgdffochdmaaLiftA
namespace Go.Proofs.Ytbppgdffochdmaa
open Go.RowKit Q
theorem law_PackFinish (v0 : Value) (l0 : List Int) (v1 : Value) (l1 : List Int) (w : World) (h0 : Holds w (fun b => b < w.heap.size) 1 v0 l0.length (l0.map (Value.int .u8))) (b0 : ∀ z ∈ l0, 0 ≤ z ∧ z ≤ 255) (h1 : Holds w (fun b => b < w.heap.size) 1 v1 l1.length (l1.map (Value.int .i64))) (b1 : ∀ z ∈ l1, -9223372036854775808 ≤ z ∧ z ≤ 9223372036854775807) :
    Calls Try.prog 11 #[v0, v1] w fun e w' => e = .returned (.bool true) ∧ Below w.heap.size w w' := by
  obtain ⟨r, h, rfl⟩ := pl_PackFinish l0 l1 b0 b1
  refine law_close (law24_PackFinish_ok l0 l1 true h) (fun h => by cases h) rfl ?_
  intro i x v hx hv
  match i with
  | 0 =>
    have hx' : _ = x := Option.some.inj hx
    have hv' : _ = v := Option.some.inj hv
    subst hx'; subst hv'
    exact h0.treeB fun _ h => h
  | 1 =>
    have hx' : _ = x := Option.some.inj hx
    have hv' : _ = v := Option.some.inj hv
    subst hx'; subst hv'
    exact h1.treeI fun _ h => h
  | i + 2 => simp at hx
end Go.Proofs.Ytbppgdffochdmaa
