/- ColourOrder: the plain proof and the walk, joined. -/
import Derived.Test.YthlpmklgokjdkaaP23g
import Derived.Test.YthlpmklgokjdkaaGw3
import Derived.Test.YthlpmklgokjdkaaRowP
import Derived.Test.YthlpmklgokjdkaaLiftA
namespace Go.Proofs.Ythlpmklgokjdkaa
open Go.RowKit Q
theorem law_ColourOrder (v0 : Value) (l0 : List (List Int)) (v1 : Value) (l1 : List Int) (w : World) (h0 : Holds w (fun b => b < w.heap.size) [IntKind.i64, .i64].length v0 l0.length (l0.flatMap (List.zipWith Value.int [IntKind.i64, .i64]))) (w0 : ∀ zs ∈ l0, zs.length = [IntKind.i64, .i64].length ∧ ∀ (j : Nat) (k : IntKind) (z : Int), [IntKind.i64, .i64][j]? = some k → zs[j]? = some z → (Lit.int k z).wf = true) (h1 : Holds w (fun b => b < w.heap.size) 1 v1 l1.length (l1.map (Value.int .u8))) (b1 : ∀ z ∈ l1, 0 ≤ z ∧ z ≤ 255) :
    Calls Try.prog 3 #[v0, v1] w fun e w' => e = .returned (.bool true) ∧ Below w.heap.size w w' := by
  obtain ⟨r, h, rfl⟩ := pl_ColourOrder (l0.map fun zs => (fun a b => (⟨a, b⟩ : ASlot)) (zs.getD 0 0) (zs.getD 1 0)) l1 (rows2 w0 (fun a b => (⟨a, b⟩ : ASlot)) (·.Size) (·.Align) (fun _ _ => rfl) (fun _ _ => rfl)).2 b1
  refine law_close (law23_ColourOrder_ok (l0.map fun zs => (fun a b => (⟨a, b⟩ : ASlot)) (zs.getD 0 0) (zs.getD 1 0)) l1 true h) (fun h => by cases h) rfl ?_
  intro i x v hx hv
  match i with
  | 0 =>
    have hx' : _ = x := Option.some.inj hx
    have hv' : _ = v := Option.some.inj hv
    subst hx'; subst hv'
    exact Holds.treeP row_ASlot (fun a b => (⟨a, b⟩ : ASlot)) (fun _ _ => rfl) h0 (fun zs hz => (w0 zs hz).1) fun _ h => h
  | 1 =>
    have hx' : _ = x := Option.some.inj hx
    have hv' : _ = v := Option.some.inj hv
    subst hx'; subst hv'
    exact h1.treeB fun _ h => h
  | i + 2 => simp at hx
end Go.Proofs.Ythlpmklgokjdkaa
