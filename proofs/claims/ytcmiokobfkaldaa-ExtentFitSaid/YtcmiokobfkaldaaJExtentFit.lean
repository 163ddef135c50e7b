/- ExtentFit: the plain proof and the walk, joined. -/
import Derived.Test.YtcmiokobfkaldaaP3f
import Derived.Test.YtcmiokobfkaldaaGwExtentFit1
import Derived.Test.YtcmiokobfkaldaaRowP
import Derived.Test.YtcmiokobfkaldaaLiftA
namespace Go.Proofs.Ytcmiokobfkaldaa
open Go.RowKit Q
theorem law_ExtentFit (v0 : Value) (l0 : List Int) (v1 : Value) (l1 : List (List Int)) (a2 : Int) (a3 : Int) (a4 : Int) (w : World) (h0 : Holds w (fun b => b < w.heap.size) 1 v0 l0.length (l0.map (Value.int .u8))) (b0 : ∀ z ∈ l0, 0 ≤ z ∧ z ≤ 255) (h1 : Holds w (fun b => b < w.heap.size) [IntKind.i64, .i64].length v1 l1.length (l1.flatMap (List.zipWith Value.int [IntKind.i64, .i64]))) (w1 : ∀ zs ∈ l1, zs.length = [IntKind.i64, .i64].length ∧ ∀ (j : Nat) (k : IntKind) (z : Int), [IntKind.i64, .i64][j]? = some k → zs[j]? = some z → (Lit.int k z).wf = true) (b2 : -9223372036854775808 ≤ a2 ∧ a2 ≤ 9223372036854775807) (b3 : -9223372036854775808 ≤ a3 ∧ a3 ≤ 9223372036854775807) (b4 : -9223372036854775808 ≤ a4 ∧ a4 ≤ 9223372036854775807) :
    Calls Try.prog 3 #[v0, v1, .int .i64 a2, .int .i64 a3, .int .i64 a4] w fun e w' => e = .returned (.bool true) ∧ Below w.heap.size w w' := by
  obtain ⟨r, h, rfl⟩ := pl_ExtentFit l0 (l1.map fun zs => (fun a b => (⟨a, b⟩ : AInterval)) (zs.getD 0 0) (zs.getD 1 0)) a2 a3 a4 b0 (rows2 w1 (fun a b => (⟨a, b⟩ : AInterval)) (·.Off) (·.Size) (fun _ _ => rfl) (fun _ _ => rfl)).2 b2 b3 b4
  refine law_close (law03_ExtentFit_ok l0 (l1.map fun zs => (fun a b => (⟨a, b⟩ : AInterval)) (zs.getD 0 0) (zs.getD 1 0)) a2 a3 a4 true h) (fun h => by cases h) rfl ?_
  intro i x v hx hv
  match i with
  | 0 =>
    have hx' : _ = x := Option.some.inj hx
    have hv' : _ = v := Option.some.inj hv
    subst hx'; subst hv'
    exact h0.treeB fun _ h => h
  | 1 =>
    have hx' : _ = x := Option.some.inj hx
    have hv' : _ = v := Option.some.inj hv
    subst hx'; subst hv'
    exact Holds.treeP row_AInterval (fun a b => (⟨a, b⟩ : AInterval)) (fun _ _ => rfl) h1 (fun zs hz => (w1 zs hz).1) fun _ h => h
  | 2 =>
    have hx' : _ = x := Option.some.inj hx
    have hv' : _ = v := Option.some.inj hv
    subst hx'; subst hv'
    exact Tr.int _ _
  | 3 =>
    have hx' : _ = x := Option.some.inj hx
    have hv' : _ = v := Option.some.inj hv
    subst hx'; subst hv'
    exact Tr.int _ _
  | 4 =>
    have hx' : _ = x := Option.some.inj hx
    have hv' : _ = v := Option.some.inj hv
    subst hx'; subst hv'
    exact Tr.int _ _
  | i + 5 => simp at hx
end Go.Proofs.Ytcmiokobfkaldaa
