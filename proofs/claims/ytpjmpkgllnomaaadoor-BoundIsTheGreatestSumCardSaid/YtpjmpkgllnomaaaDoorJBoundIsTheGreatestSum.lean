/- BoundIsTheGreatestSum: the plain proof and the walk, joined. -/
import Derived.Test.YtpjmpkgllnomaaaDoorP29e
import Derived.Test.YtpjmpkgllnomaaaDoorGwBoundIsTheGreatestSum1
import Derived.Test.YtpjmpkgllnomaaaDoorLiftA
namespace Go.Proofs.YtpjmpkgllnomaaaDoor
open Go.RowKit Q
theorem law_BoundIsTheGreatestSum (v0 : Value) (l0 : List Int) (w : World) (h0 : Holds w (fun b => b < w.heap.size) 1 v0 l0.length (l0.map (Value.int .u8))) (b0 : ∀ z ∈ l0, 0 ≤ z ∧ z ≤ 255) (hT : Tab w) :
    Calls Tryd.prog 4 #[v0] w fun e w' => e = .returned (.bool true) ∧ Below w.heap.size w w' := by
  obtain ⟨r, h, rfl⟩ := pl_BoundIsTheGreatestSum l0 b0
  refine law_close (law29_BoundIsTheGreatestSum_ok l0 true h) (fun _ => hT) rfl ?_
  intro i x v hx hv
  match i with
  | 0 =>
    have hx' : _ = x := Option.some.inj hx
    have hv' : _ = v := Option.some.inj hv
    subst hx'; subst hv'
    exact h0.treeB fun _ h => h
  | i + 1 => simp at hx
end Go.Proofs.YtpjmpkgllnomaaaDoor
