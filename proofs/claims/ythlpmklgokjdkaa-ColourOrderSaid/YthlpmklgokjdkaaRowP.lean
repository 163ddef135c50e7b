/- A slice of structs of two integers, as it comes in. -/
import Derived.Test.YthlpmklgokjdkaaLiftA
import Derived.Test.YthlpmklgokjdkaaGr
set_option linter.unusedVariables false
namespace Go.Proofs.Ythlpmklgokjdkaa
open Go.RowKit Q
theorem flat2 : ∀ {l : List (List Int)}, (∀ zs ∈ l, zs.length = 2) → ∀ (i j : Nat) (zs : List Int), l[i]? = some zs → j < 2 → (l.flatMap (List.zipWith Value.int [IntKind.i64, .i64]))[i * 2 + j]? = some (.int .i64 (zs.getD j 0))
  | [], _, i, j, zs, h, _ => by simp at h
  | y :: r, hl, i, j, zs, h, hj => by
    have hy := hl y (by simp)
    match y, hy with
    | [a, b], _ =>
      rw [List.flatMap_cons]
      cases i with
      | zero =>
        simp at h
        subst h
        match j, hj with
        | 0, _ => rfl
        | 1, _ => rfl
      | succ i =>
        have := flat2 (l := r) (fun z hz => hl z (List.mem_cons_of_mem _ hz)) i j zs (by simpa using h) hj
        rw [List.getElem?_append_right (by simp; omega)]
        simp only [List.zipWith_cons_cons, List.zipWith_nil_right, List.length_cons, List.length_nil]
        rw [show (i + 1) * 2 + j - (0 + 1 + 1) = i * 2 + j by omega]
        exact this
theorem Holds.treeP {α : Type} (g : α → List TV) (mk : Int → Int → α) (hg : ∀ a b, g (mk a b) = [.int .i64 a, .int .i64 b]) {w : World} {F : Nat → Prop} {S : Nat → Prop} {l : List (List Int)} {v : Value} (h : Holds w S [IntKind.i64, .i64].length v l.length (l.flatMap (List.zipWith Value.int [IntKind.i64, .i64]))) (hl : ∀ zs ∈ l, zs.length = 2) (hF : ∀ g, S g → F g) :
    Tr w F (.tree ((l.map fun zs => mk (zs.getD 0 0) (zs.getD 1 0)).map g)) v := by
  obtain ⟨A, c, rfl, hc, hm, hln, hcell⟩ := h
  rcases Nat.eq_zero_or_pos l.length with h0 | h0
  · have : l = [] := List.length_eq_zero_iff.1 h0
    subst this
    exact .empty A c hm
  · obtain ⟨b, o, rfl, hS, hcell⟩ := hcell h0
    have hlen : ((l.map fun zs => mk (zs.getD 0 0) (zs.getD 1 0)).map g).length = l.length := by simp
    have key : ∀ (i j : Nat) (row : List TV) (x : TV), ((l.map fun zs => mk (zs.getD 0 0) (zs.getD 1 0)).map g)[i]? = some row → row[j]? = some x → ∃ zs, l[i]? = some zs ∧ j < 2 ∧ x = .int .i64 (zs.getD j 0) := fun i j row x hi hj => by
      rw [List.getElem?_map, Option.map_eq_some_iff] at hi
      obtain ⟨y, hy, rfl⟩ := hi
      rw [List.getElem?_map, Option.map_eq_some_iff] at hy
      obtain ⟨zs, hz, rfl⟩ := hy
      rw [hg] at hj
      match j, hj with
      | 0, hj => exact ⟨zs, hz, by omega, by simpa using hj.symm⟩
      | 1, hj => exact ⟨zs, hz, by omega, by simpa using hj.symm⟩
      | j + 2, hj => simp at hj
    have := Tr.tree (w := w) (F := F) ((l.map fun zs => mk (zs.getD 0 0) (zs.getD 1 0)).map g) b o 2 c (fun i j => .int .i64 ((l[i]?.getD []).getD j 0)) (by rw [hlen]; exact hc) hm (fun row hrow => by
      obtain ⟨y, hy, rfl⟩ := List.mem_map.1 hrow
      obtain ⟨zs, _, rfl⟩ := List.mem_map.1 hy
      rw [hg]; rfl) (hF b hS) (fun i j row x hi hj => ?_) (fun i j row x hi hj => ?_)
    · rw [hlen] at this; exact this
    · obtain ⟨zs, hz, hj2, rfl⟩ := key i j row x hi hj
      have h1 := hcell (i * 2 + j) _ (flat2 hl i j zs hz hj2)
      rw [h1, hz]; rfl
    · obtain ⟨zs, hz, hj2, rfl⟩ := key i j row x hi hj
      rw [hz]
      exact .int _ _
theorem rows2 {l : List (List Int)} (h : ∀ zs ∈ l, zs.length = [IntKind.i64, .i64].length ∧ ∀ (j : Nat) (k : IntKind) (z : Int), [IntKind.i64, .i64][j]? = some k → zs[j]? = some z → (Lit.int k z).wf = true) {α : Type} (mk : Int → Int → α) (f1 f2 : α → Int) (h1 : ∀ a b, f1 (mk a b) = a) (h2 : ∀ a b, f2 (mk a b) = b) :
    (∀ zs ∈ l, zs.length = 2) ∧ ∀ x ∈ l.map (fun zs => mk (zs.getD 0 0) (zs.getD 1 0)), (-9223372036854775808 ≤ f1 x ∧ f1 x ≤ 9223372036854775807) ∧ (-9223372036854775808 ≤ f2 x ∧ f2 x ≤ 9223372036854775807) := by
  refine ⟨fun zs hz => (h zs hz).1, fun x hx => ?_⟩
  obtain ⟨zs, hz, rfl⟩ := List.mem_map.1 hx
  obtain ⟨q1, q2⟩ := h zs hz
  match zs, q1 with
  | [a, b], _ =>
    rw [h1, h2]
    have e1 := q2 0 .i64 a rfl rfl
    have e2 := q2 1 .i64 b rfl rfl
    simp [Lit.wf, IntKind.min, IntKind.max, IntKind.signed, IntKind.bits] at e1 e2
    exact ⟨e1, e2⟩
end Go.Proofs.Ythlpmklgokjdkaa
