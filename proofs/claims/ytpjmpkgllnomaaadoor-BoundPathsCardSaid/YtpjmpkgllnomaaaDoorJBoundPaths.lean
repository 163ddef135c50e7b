/- BoundPaths: the plain proof and the walk, joined. -/
import Derived.Test.YtpjmpkgllnomaaaDoorP29d
import Derived.Test.YtpjmpkgllnomaaaDoorGwBoundPaths1
import Derived.Test.YtpjmpkgllnomaaaDoorGridP
import Derived.Test.YtpjmpkgllnomaaaDoorLiftA
namespace Go.Proofs.YtpjmpkgllnomaaaDoor
open Go.RowKit Q
theorem law_BoundPaths (v0 : Value) (l0 : List Int) (a1 : Int) (v2 : Value) (l2 : List (List Int)) (w : World) (h0 : Holds w (fun b => b < w.heap.size) 1 v0 l0.length (l0.map (Value.int .u8))) (b0 : ∀ z ∈ l0, 0 ≤ z ∧ z ≤ 255) (b1 : -9223372036854775808 ≤ a1 ∧ a1 ≤ 9223372036854775807) (h2 : Tr w (fun b => b < w.heap.size) (.tree (l2.map (sR iRow))) v2) (b2 : ∀ r ∈ l2, r.length ≤ 9223372036854775807) (hT : Tab w) :
    Calls Tryd.prog 3 #[v0, .int .i64 a1, v2] w fun e w' => e = .returned (.bool true) ∧ Below w.heap.size w w' := by
  obtain ⟨r, h, rfl⟩ := pl_BoundPaths l0 a1 l2 b0 b1 b2
  refine law_close (law29_BoundPaths_ok l0 a1 l2 true h) (fun _ => hT) rfl ?_
  intro i x v hx hv
  match i with
  | 0 =>
    have hx' : _ = x := Option.some.inj hx
    have hv' : _ = v := Option.some.inj hv
    subst hx'; subst hv'
    exact h0.treeB fun _ h => h
  | 1 =>
    have hx' : _ = x := Option.some.inj hx
    have hv' : _ = v := Option.some.inj hv
    subst hx'; subst hv'
    exact Tr.int _ _
  | 2 =>
    have hx' : _ = x := Option.some.inj hx
    have hv' : _ = v := Option.some.inj hv
    subst hx'; subst hv'
    exact h2
  | i + 3 => simp at hx
end Go.Proofs.YtpjmpkgllnomaaaDoor
