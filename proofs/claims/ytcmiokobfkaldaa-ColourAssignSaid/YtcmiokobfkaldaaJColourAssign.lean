/- ColourAssign: the plain proof and the walk, joined. -/
import Derived.Test.YtcmiokobfkaldaaP23d
import Derived.Test.YtcmiokobfkaldaaGwColourAssign1
import Derived.Test.YtcmiokobfkaldaaGridP
import Derived.Test.YtcmiokobfkaldaaLiftA
namespace Go.Proofs.Ytcmiokobfkaldaa
open Go.RowKit Q
theorem law_ColourAssign (v0 : Value) (l0 : List Int) (v1 : Value) (l1 : List (List Int)) (a2 : Int) (w : World) (h0 : Holds w (fun b => b < w.heap.size) 1 v0 l0.length (l0.map (Value.int .u8))) (b0 : ∀ z ∈ l0, 0 ≤ z ∧ z ≤ 255) (h1 : Tr w (fun b => b < w.heap.size) (.tree (l1.map (sR iRow))) v1) (b1 : ∀ r ∈ l1, r.length ≤ 9223372036854775807) (b2 : -9223372036854775808 ≤ a2 ∧ a2 ≤ 9223372036854775807) :
    Calls Try.prog 5 #[v0, v1, .int .i64 a2] w fun e w' => e = .returned (.bool true) ∧ Below w.heap.size w w' := by
  obtain ⟨r, h, rfl⟩ := pl_ColourAssign l0 l1 a2 b0 b1 b2
  refine law_close (law23_ColourAssign_ok l0 l1 a2 true h) (fun h => by cases h) rfl ?_
  intro i x v hx hv
  match i with
  | 0 =>
    have hx' : _ = x := Option.some.inj hx
    have hv' : _ = v := Option.some.inj hv
    subst hx'; subst hv'
    exact h0.treeB fun _ h => h
  | 1 =>
    have hx' : _ = x := Option.some.inj hx
    have hv' : _ = v := Option.some.inj hv
    subst hx'; subst hv'
    exact h1
  | 2 =>
    have hx' : _ = x := Option.some.inj hx
    have hv' : _ = v := Option.some.inj hv
    subst hx'; subst hv'
    exact Tr.int _ _
  | i + 3 => simp at hx
end Go.Proofs.Ytcmiokobfkaldaa
