/- A slice of bools, as it comes in. -/
import Derived.Test.YtlhaoijkffhafaaDoorLiftA
import Derived.Test.YtlhaoijkffhafaaDoorGr
import Derived.Deep.Grids
namespace Go.Proofs.YtlhaoijkffhafaaDoor
open Go.Deep Go.RowKit Go.WideShapes Go.ChangeShapes Go.ChangeAt Q

theorem Holds.treeO {w : World} {F : Nat → Prop} {S : Nat → Prop} {l : List Bool} {v : Value} (h : Holds w S 1 v l.length (l.map Value.bool)) (hF : ∀ g, S g → F g) : Tr w F (.tree (l.map oRow)) v := by
  obtain ⟨A, c, rfl, hc, hm, hl, hcell⟩ := h
  rcases Nat.eq_zero_or_pos l.length with h0 | h0
  · have : l = [] := List.length_eq_zero_iff.1 h0
    subst this
    exact .empty A c hm
  · obtain ⟨b, o, rfl, hS, hcell⟩ := hcell h0
    have := Tr.tree (w := w) (F := F) (l.map oRow) b o 1 c (fun i _ => .bool (l[i]?.getD false)) (by rw [List.length_map]; exact hc) hm (fun row hrow => by
      obtain ⟨n, _, rfl⟩ := List.mem_map.1 hrow; rfl) (hF b hS) (fun i j row x hi hj => ?_) (fun i j row x hi hj => ?_)
    · rw [List.length_map] at this; exact this
    · rw [List.getElem?_map, Option.map_eq_some_iff] at hi
      obtain ⟨n, hn, rfl⟩ := hi
      have hj0 : j = 0 := by
        have := (List.getElem?_eq_some_iff.1 hj).1
        simp [oRow] at this; omega
      subst hj0
      have := hcell i (.bool n) (by rw [List.getElem?_map, hn]; rfl)
      rw [hn]; simpa using this
    · rw [List.getElem?_map, Option.map_eq_some_iff] at hi
      obtain ⟨n, hn, rfl⟩ := hi
      have hj0 : j = 0 := by
        have := (List.getElem?_eq_some_iff.1 hj).1
        simp [oRow] at this; omega
      subst hj0
      simp only [oRow, List.getElem?_cons_zero, Option.some.injEq] at hj
      subst hj
      rw [hn]
      exact .bool _
section
variable {H : Type} {enc : TypeId × Value → H} {P : Program} {w : World}
theorem open_readsO {base0 : Nat} {t e : TypeId} {v : Value} {d : DataW H} {p : List MemPlace} (ht : P.underlying t = some (.slice e)) (he : P.underlying e = some .bool) (hc : P.cellsOf e = 1)
    (hval : Value.okWide P w .any base0 t v) (h : DataW.Trod enc P w 0 (fun _ => true) true t v d p) :
    ∃ l : List Bool, Holds w (fun b => b < w.heap.size) 1 v l.length (l.map Value.bool) := by
  obtain ⟨a0, len, cap, rfl⟩ := okWide_slice ht hval
  obtain ⟨fuel, hf⟩ := h
  rcases open_bools ht he hc hf with ⟨hcs, _⟩ | ⟨a, len', cap', B, hcs, _, hl, hm, _, hcell⟩
  · have h0 : Value.slice a0 len cap = .slice none 0 0 := by simpa [Value.cells] using hcs
    injection h0 with h1 h2 h3
    subst h1; subst h2; subst h3
    exact ⟨[], ⟨_, _, rfl, Nat.le_refl _, by simp [maxLen], by simp, fun h => absurd h (by simp)⟩⟩
  · have h0 : Value.slice a0 len cap = .slice (some a) len' cap' := by simpa [Value.cells] using hcs
    injection h0 with h1 h2 h3
    subst h1; subst h2; subst h3
    have hlen : ((List.range len).map B).length = len := by simp
    refine ⟨(List.range len).map B, ⟨_, _, by rw [hlen], by omega, hm, by simp, fun hn => ?_⟩⟩
    rw [hlen] at hn
    have hc0 := hcell 0 (by omega)
    have ha : a = ⟨a.block, a.off, none⟩ := by
      have : a.add 0 = a := by simp [Addr.add]
      rw [this] at hc0
      exact addr_of_cells hc0
    refine ⟨a.block, a.off, by rw [← ha], ?_, fun j u hu => ?_⟩
    · have : a.add 0 = a := by simp [Addr.add]
      rw [this] at hc0
      exact World.block_lt_of_cell? _ _ hc0
    · rw [List.getElem?_map, List.getElem?_map] at hu
      by_cases hj : j < len
      · have hc1 := hcell j (by omega)
        rw [ha, add_none] at hc1
        rw [hc1]
        rw [List.getElem?_range hj] at hu
        simpa using hu
      · rw [List.getElem?_eq_none (by simpa using hj)] at hu
        simp at hu
end
end Go.Proofs.YtlhaoijkffhafaaDoor
