/- DeadstoreKeep: the plain proof and the walk, joined. -/
import Derived.Test.YtjfkdjlmajfljaaP20
import Derived.Test.YtjfkdjlmajfljaaGw6
import Derived.Test.YtjfkdjlmajfljaaBools
import Derived.Test.YtjfkdjlmajfljaaLiftA
namespace Go.Proofs.Ytjfkdjlmajfljaa
open Go.RowKit Q
theorem law_DeadstoreKeep (v0 : Value) (l0 : List Int) (v1 : Value) (l1 : List Bool) (w : World) (h0 : Holds w (fun b => b < w.heap.size) 1 v0 l0.length (l0.map (Value.int .u8))) (b0 : ∀ z ∈ l0, 0 ≤ z ∧ z ≤ 255) (h1 : Holds w (fun b => b < w.heap.size) 1 v1 l1.length (l1.map Value.bool)) :
    Calls Try.prog 6 #[v0, v1] w fun e w' => e = .returned (.bool true) ∧ Below w.heap.size w w' := by
  obtain ⟨r, h, rfl⟩ := pl_DeadstoreKeep l0 l1 b0
  refine law_close (law20_DeadstoreKeep_ok l0 l1 true h) (fun h => by cases h) rfl ?_
  intro i x v hx hv
  match i with
  | 0 =>
    have hx' : _ = x := Option.some.inj hx
    have hv' : _ = v := Option.some.inj hv
    subst hx'; subst hv'
    exact h0.treeB fun _ h => h
  | 1 =>
    have hx' : _ = x := Option.some.inj hx
    have hv' : _ = v := Option.some.inj hv
    subst hx'; subst hv'
    exact h1.treeO fun _ h => h
  | i + 2 => simp at hx
end Go.Proofs.Ytjfkdjlmajfljaa
