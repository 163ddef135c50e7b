/- CallgraphReach: the plain proof and the walk, joined. -/
import Derived.Test.YteifdlklpdjkkaaDoorP27b
import Derived.Test.YteifdlklpdjkkaaDoorGwCallgraphReach1
import Derived.Test.YteifdlklpdjkkaaDoorLiftA
namespace Go.Proofs.YteifdlklpdjkkaaDoor
open Go.RowKit Q
theorem law_CallgraphReach (v0 : Value) (l0 : List Int) (a1 : Int) (w : World) (h0 : Holds w (fun b => b < w.heap.size) 1 v0 l0.length (l0.map (Value.int .u8))) (b0 : ∀ z ∈ l0, 0 ≤ z ∧ z ≤ 255) (b1 : -9223372036854775808 ≤ a1 ∧ a1 ≤ 9223372036854775807) (hT : Tab w) :
    Calls Tryd.prog 6 #[v0, .int .i64 a1] w fun e w' => e = .returned (.bool true) ∧ Below w.heap.size w w' := by
  obtain ⟨r, h, rfl⟩ := pl_CallgraphReach l0 a1 b0 b1
  refine law_close (law27_CallgraphReach_ok l0 a1 true h) (fun _ => hT) rfl ?_
  intro i x v hx hv
  match i with
  | 0 =>
    have hx' : _ = x := Option.some.inj hx
    have hv' : _ = v := Option.some.inj hv
    subst hx'; subst hv'
    exact h0.treeB fun _ h => h
  | 1 =>
    have hx' : _ = x := Option.some.inj hx
    have hv' : _ = v := Option.some.inj hv
    subst hx'; subst hv'
    exact Tr.int _ _
  | i + 2 => simp at hx
end Go.Proofs.YteifdlklpdjkkaaDoor
