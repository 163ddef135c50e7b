/- ColourWithoutInterference: the plain proof and the walk, joined. -/
import Derived.Test.YtcmiokobfkaldaaP23e
import Derived.Test.YtcmiokobfkaldaaGwColourWithoutInterference1
import Derived.Test.YtcmiokobfkaldaaLiftA
namespace Go.Proofs.Ytcmiokobfkaldaa
open Go.RowKit Q
theorem law_ColourWithoutInterference (v0 : Value) (l0 : List Int) (a1 : Int) (w : World) (h0 : Holds w (fun b => b < w.heap.size) 1 v0 l0.length (l0.map (Value.int .u8))) (b0 : ∀ z ∈ l0, 0 ≤ z ∧ z ≤ 255) (b1 : 0 ≤ a1 ∧ a1 ≤ 255) :
    Calls Try.prog 7 #[v0, .int .u8 a1] w fun e w' => e = .returned (.bool true) ∧ Below w.heap.size w w' := by
  obtain ⟨r, h, rfl⟩ := pl_ColourWithoutInterference l0 a1 b0 b1
  refine law_close (law23_ColourWithoutInterference_ok l0 a1 true h) (fun h => by cases h) rfl ?_
  intro i x v hx hv
  match i with
  | 0 =>
    have hx' : _ = x := Option.some.inj hx
    have hv' : _ = v := Option.some.inj hv
    subst hx'; subst hv'
    exact h0.treeB fun _ h => h
  | 1 =>
    have hx' : _ = x := Option.some.inj hx
    have hv' : _ = v := Option.some.inj hv
    subst hx'; subst hv'
    exact Tr.int _ _
  | i + 2 => simp at hx
end Go.Proofs.Ytcmiokobfkaldaa
