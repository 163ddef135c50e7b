/- RewriteApply: the plain proof and the walk, joined. -/
import Derived.Test.YtlhaoijkffhafaaDoorP21fA
import Derived.Test.YtlhaoijkffhafaaDoorGwRewriteApply1
import Derived.Test.YtlhaoijkffhafaaDoorRenP
import Derived.Test.YtlhaoijkffhafaaDoorLiftA
namespace Go.Proofs.YtlhaoijkffhafaaDoor
open Go.RowKit Q
theorem law_RewriteApply (v0 : Value) (l0 : List Int) (u1 z1 : Value) (l1 : List Int) (m1 : List Bool) (w : World) (h0 : Holds w (fun b => b < w.heap.size) 1 v0 l0.length (l0.map (Value.int .u8))) (b0 : ∀ z ∈ l0, 0 ≤ z ∧ z ≤ 255) (h1 : Holds w (fun b => b < w.heap.size) 1 u1 l1.length (l1.map (Value.int .i64))) (b1 : ∀ z ∈ l1, -9223372036854775808 ≤ z ∧ z ≤ 9223372036854775807) (o1 : Holds w (fun b => b < w.heap.size) 1 z1 m1.length (m1.map Value.bool)) (hT : Tab w) :
    Calls Tryd.prog 3 #[v0, .agg #[u1, z1]] w fun e w' => e = .returned (.bool true) ∧ Below w.heap.size w w' := by
  obtain ⟨r, h, rfl⟩ := pl_RewriteApply l0 ⟨l1, m1⟩ b0 b1
  refine law_close (law21_RewriteApply_ok l0 ⟨l1, m1⟩ true h) (fun _ => hT) rfl ?_
  intro i x v hx hv
  match i with
  | 0 =>
    have hx' : _ = x := Option.some.inj hx
    have hv' : _ = v := Option.some.inj hv
    subst hx'; subst hv'
    exact h0.treeB fun _ h => h
  | 1 =>
    have hx' : _ = x := Option.some.inj hx
    have hv' : _ = v := Option.some.inj hv
    subst hx'; subst hv'
    exact ren_rep h1 o1
  | i + 2 => simp at hx
end Go.Proofs.YtlhaoijkffhafaaDoor
