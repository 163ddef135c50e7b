/- BoundOverflows: the plain proof and the walk, joined. -/
import Derived.Test.YtmefipdgohflmaaDoorP29c
import Derived.Test.YtmefipdgohflmaaDoorGwBoundOverflows1
import Derived.Test.YtmefipdgohflmaaDoorLiftA
namespace Go.Proofs.YtmefipdgohflmaaDoor
open Go.RowKit Q
theorem law_BoundOverflows (a0 : Int) (a1 : Int) (v2 : Value) (l2 : List Int) (w : World) (b0 : 0 ≤ a0 ∧ a0 ≤ 255) (b1 : -128 ≤ a1 ∧ a1 ≤ 127) (h2 : Holds w (fun b => b < w.heap.size) 1 v2 l2.length (l2.map (Value.int .u8))) (b2 : ∀ z ∈ l2, 0 ≤ z ∧ z ≤ 255) (hT : Tab w) :
    Calls Tryd.prog 4 #[.int .u8 a0, .int .i8 a1, v2] w fun e w' => e = .returned (.bool true) ∧ Below w.heap.size w w' := by
  obtain ⟨r, h, rfl⟩ := pl_BoundOverflows a0 a1 l2 b0 b1 b2
  refine law_close (law29_BoundOverflows_ok a0 a1 l2 true h) (fun _ => hT) rfl ?_
  intro i x v hx hv
  match i with
  | 0 =>
    have hx' : _ = x := Option.some.inj hx
    have hv' : _ = v := Option.some.inj hv
    subst hx'; subst hv'
    exact Tr.int _ _
  | 1 =>
    have hx' : _ = x := Option.some.inj hx
    have hv' : _ = v := Option.some.inj hv
    subst hx'; subst hv'
    exact Tr.int _ _
  | 2 =>
    have hx' : _ = x := Option.some.inj hx
    have hv' : _ = v := Option.some.inj hv
    subst hx'; subst hv'
    exact h2.treeB fun _ h => h
  | i + 3 => simp at hx
end Go.Proofs.YtmefipdgohflmaaDoor
