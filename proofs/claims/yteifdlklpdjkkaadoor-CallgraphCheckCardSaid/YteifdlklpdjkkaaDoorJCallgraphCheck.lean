/- CallgraphCheck: the plain proof and the walk, joined. -/
import Derived.Test.YteifdlklpdjkkaaDoorP27b
import Derived.Test.YteifdlklpdjkkaaDoorGwCallgraphCheck1
import Derived.Test.YteifdlklpdjkkaaDoorGridP
import Derived.Test.YteifdlklpdjkkaaDoorLiftA
namespace Go.Proofs.YteifdlklpdjkkaaDoor
open Go.RowKit Q
theorem law_CallgraphCheck (v0 : Value) (l0 : List (List Int)) (v1 : Value) (l1 : List Int) (w : World) (h0 : Tr w (fun b => b < w.heap.size) (.tree (l0.map (sR iRow))) v0) (b0 : ∀ r ∈ l0, r.length ≤ 9223372036854775807) (h1 : Holds w (fun b => b < w.heap.size) 1 v1 l1.length (l1.map (Value.int .u8))) (b1 : ∀ z ∈ l1, 0 ≤ z ∧ z ≤ 255) (hT : Tab w) :
    Calls Tryd.prog 4 #[v0, v1] w fun e w' => e = .returned (.bool true) ∧ Below w.heap.size w w' := by
  obtain ⟨r, h, rfl⟩ := pl_CallgraphCheck l0 l1 b0 b1
  refine law_close (law27_CallgraphCheck_ok l0 l1 true h) (fun _ => hT) rfl ?_
  intro i x v hx hv
  match i with
  | 0 =>
    have hx' : _ = x := Option.some.inj hx
    have hv' : _ = v := Option.some.inj hv
    subst hx'; subst hv'
    exact h0
  | 1 =>
    have hx' : _ = x := Option.some.inj hx
    have hv' : _ = v := Option.some.inj hv
    subst hx'; subst hv'
    exact h1.treeB fun _ h => h
  | i + 2 => simp at hx
end Go.Proofs.YteifdlklpdjkkaaDoor
