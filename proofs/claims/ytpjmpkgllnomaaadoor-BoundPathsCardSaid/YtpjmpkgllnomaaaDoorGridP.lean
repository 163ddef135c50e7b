/- A slice of slices of ints, as it comes in. -/
import Derived.Test.YtpjmpkgllnomaaaDoorLiftA
import Derived.Test.YtpjmpkgllnomaaaDoorGr
import Derived.Deep.Matrix
set_option linter.unusedVariables false
namespace Go.Proofs.YtpjmpkgllnomaaaDoor
open Go.Deep Go.RowKit Go.WideShapes Go.ChangeShapes Go.ChangeAt Q
section
variable {H : Type} {enc : TypeId × Value → H} {P : Program} {w : World}
theorem grid_row {w : World} {F : Nat → Prop} {A : Option Addr} {L C : Nat} {Z : List Int} (hL : L ≤ C) (hC : C ≤ maxLen) (hZ : Z.length = C) (hn : A = none → C = 0) (hF : ∀ g, g < w.heap.size → F g)
    (hc : ∀ a', A = some a' → ∀ c, c < C → w.cell? (a'.add c) = some (.int .i64 (Z.getD c 0))) : Tr w F (.tree ((Z.take L).map iRow)) (.slice A L C) := by
  have hlen : (Z.take L).length = L := by rw [List.length_take]; omega
  rcases Nat.eq_zero_or_pos L with h0 | h0
  · subst h0
    simp only [List.take_zero, List.map_nil]
    exact .empty A C hC
  · match A, hn, hc with
    | none, hn, _ => have := hn rfl; omega
    | some a, _, hc =>
      have hc0 := hc a rfl 0 (by omega)
      have ha : a = ⟨a.block, a.off, none⟩ := by
        have : a.add 0 = a := by simp [Addr.add]
        rw [this] at hc0
        exact addr_of_cells hc0
      have hb : a.block < w.heap.size := by
        have : a.add 0 = a := by simp [Addr.add]
        rw [this] at hc0
        exact World.block_lt_of_cell? _ _ hc0
      have := Tr.tree (w := w) (F := F) ((Z.take L).map iRow) a.block a.off 1 C (fun i _ => .int .i64 (Z.getD i 0)) (by rw [List.length_map, hlen]; exact hL) hC (fun row hrow => by
        obtain ⟨n, _, rfl⟩ := List.mem_map.1 hrow; rfl) (hF _ hb) (fun i j row x hi hj => ?_) (fun i j row x hi hj => ?_)
      · rw [List.length_map, hlen, ← ha] at this; exact this
      · rw [List.getElem?_map, Option.map_eq_some_iff] at hi
        obtain ⟨n, hn, rfl⟩ := hi
        have hj0 : j = 0 := by
          have := (List.getElem?_eq_some_iff.1 hj).1
          simp [iRow] at this; omega
        subst hj0
        have hi' := (List.getElem?_eq_some_iff.1 hn).1
        rw [hlen] at hi'
        have := hc a rfl i (by omega)
        rw [ha, add_none] at this
        simpa using this
      · rw [List.getElem?_map, Option.map_eq_some_iff] at hi
        obtain ⟨n, hn, rfl⟩ := hi
        have hj0 : j = 0 := by
          have := (List.getElem?_eq_some_iff.1 hj).1
          simp [iRow] at this; omega
        subst hj0
        simp only [iRow, List.getElem?_cons_zero, Option.some.injEq] at hj
        subst hj
        rw [List.getElem?_take] at hn
        split at hn
        · rw [List.getD_eq_getElem?_getD, hn]; exact .int _ _
        · simp at hn
theorem open_grid {base0 : Nat} {t e q : TypeId} {v : Value} {d : DataW H} {p : List MemPlace} (ht : P.underlying t = some (.slice e)) (he : P.underlying e = some (.slice q)) (hq : P.underlying q = some (.int .i64)) (ce : P.cellsOf e = 1) (cq : P.cellsOf q = 1)
    (hval : Value.okWide P w .any base0 t v) (h : DataW.Trod enc P w 0 (fun _ => true) true t v d p) :
    ∃ l : List (List Int), Tr w (fun b => b < w.heap.size) (.tree (l.map (sR iRow))) v ∧ ∀ r ∈ l, r.length ≤ 9223372036854775807 := by
  obtain ⟨a0, len, cap, rfl⟩ := okWide_slice ht hval
  obtain ⟨fuel, hf⟩ := h
  rcases open_int_rows ht he hq ce cq hf with ⟨hcs, _⟩ | ⟨a, len', cap', A, L, C, Z, hcs, _, hl, hm, _, hcell⟩
  · have h0 : Value.slice a0 len cap = .slice none 0 0 := by simpa [Value.cells] using hcs
    injection h0 with h1 h2 h3
    subst h1; subst h2; subst h3
    exact ⟨[], .empty _ _ (by simp [maxLen]), by simp⟩
  · have h0 : Value.slice a0 len cap = .slice (some a) len' cap' := by simpa [Value.cells] using hcs
    injection h0 with h1 h2 h3
    subst h1; subst h2; subst h3
    refine ⟨(List.range len).map fun r => (Z r).take (L r), ?_, ?_⟩
    · rcases Nat.eq_zero_or_pos len with h0 | h0
      · subst h0
        exact .empty _ _ hm
      · have hc0 := (hcell 0 (by omega)).1
        have ha : a = ⟨a.block, a.off, none⟩ := by
          have : a.add 0 = a := by simp [Addr.add]
          rw [this] at hc0
          exact addr_of_cells hc0
        have hb : a.block < w.heap.size := by
          have : a.add 0 = a := by simp [Addr.add]
          rw [this] at hc0
          exact World.block_lt_of_cell? _ _ hc0
        have key : ∀ (i j : Nat) (row : List TV) (x : TV), (((List.range len).map fun r => (Z r).take (L r)).map (sR iRow))[i]? = some row → row[j]? = some x → i < len ∧ j = 0 ∧ x = .tree (((Z i).take (L i)).map iRow) := fun i j row x hi hj => by
          rw [List.getElem?_map, Option.map_eq_some_iff] at hi
          obtain ⟨y, hy, rfl⟩ := hi
          rw [List.getElem?_map, Option.map_eq_some_iff] at hy
          obtain ⟨z, hz, rfl⟩ := hy
          have hi' := (List.getElem?_eq_some_iff.1 hz).1
          simp only [List.length_range] at hi'
          rw [List.getElem?_range hi'] at hz
          obtain rfl := Option.some.inj hz
          have hj0 : j = 0 := by
            have := (List.getElem?_eq_some_iff.1 hj).1
            simp [sR] at this; omega
          subst hj0
          simp only [sR, List.getElem?_cons_zero, Option.some.injEq] at hj
          exact ⟨hi', rfl, hj.symm⟩
        have := Tr.tree (w := w) (F := fun b => b < w.heap.size) (((List.range len).map fun r => (Z r).take (L r)).map (sR iRow)) a.block a.off 1 cap (fun i _ => .slice (A i) (L i) (C i)) (by simpa using hl) hm (fun row hrow => by
          obtain ⟨y, hy, rfl⟩ := List.mem_map.1 hrow; rfl) hb (fun i j row x hi hj => ?_) (fun i j row x hi hj => ?_)
        · rw [List.length_map, List.length_map, List.length_range, ← ha] at this; exact this
        · obtain ⟨hi', rfl, rfl⟩ := key i j row x hi hj
          have := (hcell i (by omega)).1
          rw [ha, add_none] at this
          simpa using this
        · obtain ⟨hi', rfl, rfl⟩ := key i j row x hi hj
          obtain ⟨_, q1, q2, q3, _, q4, q5⟩ := hcell i (by omega)
          exact grid_row q1 q2 q3 q4 (fun _ h => h) fun a' ha' => (q5 a' ha').2
    · intro r hr
      obtain ⟨i, hi, rfl⟩ := List.mem_map.1 hr
      have hi' := List.mem_range.1 hi
      obtain ⟨_, q1, q2, q3, _⟩ := hcell i (by omega)
      rw [List.length_take]
      have : maxLen = 9223372036854775807 := by decide
      omega
end
end Go.Proofs.YtpjmpkgllnomaaaDoor
