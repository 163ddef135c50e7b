/- ColourValid: the plain proof and the walk, joined. -/
import Derived.Test.YtcmiokobfkaldaaP23d
import Derived.Test.YtcmiokobfkaldaaGwColourValid1
import Derived.Test.YtcmiokobfkaldaaGridP
import Derived.Test.YtcmiokobfkaldaaLiftA
namespace Go.Proofs.Ytcmiokobfkaldaa
open Go.RowKit Q
theorem law_ColourValid (v0 : Value) (l0 : List Int) (v1 : Value) (l1 : List Int) (v2 : Value) (l2 : List (List Int)) (a3 : Int) (w : World) (h0 : Holds w (fun b => b < w.heap.size) 1 v0 l0.length (l0.map (Value.int .u8))) (b0 : ∀ z ∈ l0, 0 ≤ z ∧ z ≤ 255) (h1 : Holds w (fun b => b < w.heap.size) 1 v1 l1.length (l1.map (Value.int .i64))) (b1 : ∀ z ∈ l1, -9223372036854775808 ≤ z ∧ z ≤ 9223372036854775807) (h2 : Tr w (fun b => b < w.heap.size) (.tree (l2.map (sR iRow))) v2) (b2 : ∀ r ∈ l2, r.length ≤ 9223372036854775807) (b3 : -9223372036854775808 ≤ a3 ∧ a3 ≤ 9223372036854775807) :
    Calls Try.prog 8 #[v0, v1, v2, .int .i64 a3] w fun e w' => e = .returned (.bool true) ∧ Below w.heap.size w w' := by
  obtain ⟨r, h, rfl⟩ := pl_ColourValid l0 l1 l2 a3 b0 b1 b2 b3
  refine law_close (law23_ColourValid_ok l0 l1 l2 a3 true h) (fun h => by cases h) rfl ?_
  intro i x v hx hv
  match i with
  | 0 =>
    have hx' : _ = x := Option.some.inj hx
    have hv' : _ = v := Option.some.inj hv
    subst hx'; subst hv'
    exact h0.treeB fun _ h => h
  | 1 =>
    have hx' : _ = x := Option.some.inj hx
    have hv' : _ = v := Option.some.inj hv
    subst hx'; subst hv'
    exact h1.treeI fun _ h => h
  | 2 =>
    have hx' : _ = x := Option.some.inj hx
    have hv' : _ = v := Option.some.inj hv
    subst hx'; subst hv'
    exact h2
  | 3 =>
    have hx' : _ = x := Option.some.inj hx
    have hv' : _ = v := Option.some.inj hv
    subst hx'; subst hv'
    exact Tr.int _ _
  | i + 4 => simp at hx
end Go.Proofs.Ytcmiokobfkaldaa
