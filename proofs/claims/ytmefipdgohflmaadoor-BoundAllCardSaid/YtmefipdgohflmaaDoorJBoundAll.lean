/- BoundAll: the plain proof and the walk, joined. -/
import Derived.Test.YtmefipdgohflmaaDoorP29b
import Derived.Test.YtmefipdgohflmaaDoorGwBoundAll1
import Derived.Test.YtmefipdgohflmaaDoorGridP
import Derived.Test.YtmefipdgohflmaaDoorLiftA
namespace Go.Proofs.YtmefipdgohflmaaDoor
open Go.RowKit Q
theorem law_BoundAll (v0 : Value) (l0 : List Int) (v1 : Value) (l1 : List (List Int)) (v2 : Value) (l2 : List Int) (w : World) (h0 : Holds w (fun b => b < w.heap.size) 1 v0 l0.length (l0.map (Value.int .u8))) (b0 : ∀ z ∈ l0, 0 ≤ z ∧ z ≤ 255) (h1 : Tr w (fun b => b < w.heap.size) (.tree (l1.map (sR iRow))) v1) (b1 : ∀ r ∈ l1, r.length ≤ 9223372036854775807) (h2 : Holds w (fun b => b < w.heap.size) 1 v2 l2.length (l2.map (Value.int .i64))) (b2 : ∀ z ∈ l2, -9223372036854775808 ≤ z ∧ z ≤ 9223372036854775807) (hT : Tab w) :
    Calls Tryd.prog 5 #[v0, v1, v2] w fun e w' => e = .returned (.bool true) ∧ Below w.heap.size w w' := by
  obtain ⟨r, h, rfl⟩ := pl_BoundAll l0 l1 l2 b0 b1 b2
  refine law_close (law29_BoundAll_ok l0 l1 l2 true h) (fun _ => hT) rfl ?_
  intro i x v hx hv
  match i with
  | 0 =>
    have hx' : _ = x := Option.some.inj hx
    have hv' : _ = v := Option.some.inj hv
    subst hx'; subst hv'
    exact h0.treeB fun _ h => h
  | 1 =>
    have hx' : _ = x := Option.some.inj hx
    have hv' : _ = v := Option.some.inj hv
    subst hx'; subst hv'
    exact h1
  | 2 =>
    have hx' : _ = x := Option.some.inj hx
    have hv' : _ = v := Option.some.inj hv
    subst hx'; subst hv'
    exact h2.treeI fun _ h => h
  | i + 3 => simp at hx
end Go.Proofs.YtmefipdgohflmaaDoor
