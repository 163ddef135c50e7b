/- A struct of a slice of integers and a slice of bools, as it comes in. -/
import Derived.Test.YtlhaoijkffhafaaDoorBools
import Derived.Test.YtlhaoijkffhafaaDoorBase
namespace Go.Proofs.YtlhaoijkffhafaaDoor
open Go.Deep Go.RowKit Go.WideShapes Go.ChangeShapes Go.ChangeAt Q
section
variable {H : Type} {enc : TypeId × Value → H} {P : Program} {w : World}
theorem open_cellI {t e : TypeId} {k : IntKind} {c : Value} {fuel : Nat} {x : DataW H × List MemPlace} (ht : P.underlying t = some (.slice e)) (he : P.underlying e = some (.int k)) (hc : P.cellsOf e = 1)
    (hf : DataW.trod enc P w 0 (fun _ => true) true fuel t [c] = some x) :
    ∃ l : List Int, Holds w (fun b => b < w.heap.size) 1 c l.length (l.map (Value.int k)) ∧ ∀ z ∈ l, (Lit.int k z).wf = true := by
  rcases open_ints ht he hc hf with ⟨hcs, _⟩ | ⟨a, len', cap', zs, hcs, _, hl, hm, hz, _, hcell, hwz⟩
  · have h0 : c = .slice none 0 0 := by simpa using hcs
    subst h0
    exact ⟨[], ⟨_, _, rfl, Nat.le_refl _, by simp [maxLen], by simp, fun h => absurd h (by simp)⟩, by simp⟩
  · have h0 : c = .slice (some a) len' cap' := by simpa using hcs
    subst h0
    simp only [if_true] at hz
    have hlen : (zs.take len').length = len' := by rw [List.length_take]; omega
    refine ⟨zs.take len', ⟨_, _, by rw [hlen], by omega, hm, by simp, fun hn => ?_⟩, fun z hz' => hwz z (List.mem_of_mem_take hz')⟩
    rw [hlen] at hn
    have hc0 := hcell 0 (by omega)
    have ha : a = ⟨a.block, a.off, none⟩ := by
      have : a.add 0 = a := by simp [Addr.add]
      rw [this] at hc0
      exact addr_of_cells hc0
    refine ⟨a.block, a.off, by rw [← ha], ?_, fun j u hu => ?_⟩
    · have : a.add 0 = a := by simp [Addr.add]
      rw [this] at hc0
      exact World.block_lt_of_cell? _ _ hc0
    · rw [List.getElem?_map, Option.map_eq_some_iff] at hu
      obtain ⟨z, hz1, rfl⟩ := hu
      have hj : j < len' := by
        have := (List.getElem?_eq_some_iff.1 hz1).1
        rw [hlen] at this; exact this
      have hc1 := hcell j (by omega)
      rw [ha, add_none] at hc1
      rw [hc1]
      rw [List.getElem?_take_of_lt hj] at hz1
      have hjz := (List.getElem?_eq_some_iff.1 hz1)
      obtain ⟨q1, q2⟩ := hjz
      simp [List.getD_eq_getElem?_getD, List.getElem?_eq_getElem q1, q2]
theorem open_cellO {t e : TypeId} {c : Value} {fuel : Nat} {x : DataW H × List MemPlace} (ht : P.underlying t = some (.slice e)) (he : P.underlying e = some .bool) (hc : P.cellsOf e = 1)
    (hf : DataW.trod enc P w 0 (fun _ => true) true fuel t [c] = some x) :
    ∃ l : List Bool, Holds w (fun b => b < w.heap.size) 1 c l.length (l.map Value.bool) := by
  rcases open_bools ht he hc hf with ⟨hcs, _⟩ | ⟨a, len', cap', B, hcs, _, hl, hm, _, hcell⟩
  · have h0 : c = .slice none 0 0 := by simpa using hcs
    subst h0
    exact ⟨[], ⟨_, _, rfl, Nat.le_refl _, by simp [maxLen], by simp, fun h => absurd h (by simp)⟩⟩
  · have h0 : c = .slice (some a) len' cap' := by simpa using hcs
    subst h0
    have hlen : ((List.range len').map B).length = len' := by simp
    refine ⟨(List.range len').map B, ⟨_, _, by rw [hlen], by omega, hm, by simp, fun hn => ?_⟩⟩
    rw [hlen] at hn
    have hc0 := hcell 0 (by omega)
    have ha : a = ⟨a.block, a.off, none⟩ := by
      have : a.add 0 = a := by simp [Addr.add]
      rw [this] at hc0
      exact addr_of_cells hc0
    refine ⟨a.block, a.off, by rw [← ha], ?_, fun j u hu => ?_⟩
    · have : a.add 0 = a := by simp [Addr.add]
      rw [this] at hc0
      exact World.block_lt_of_cell? _ _ hc0
    · rw [List.getElem?_map, List.getElem?_map] at hu
      by_cases hj : j < len'
      · have hc1 := hcell j (by omega)
        rw [ha, add_none] at hc1
        rw [hc1]
        rw [List.getElem?_range hj] at hu
        simpa using hu
      · rw [List.getElem?_eq_none (by simpa using hj)] at hu
        simp at hu
theorem open_ren {base0 : Nat} {t t0 e0 t1 e1 : TypeId} {k : IntKind} {v : Value} {d : DataW H} {p : List MemPlace} {fs : Array Field} (hs : P.underlying t = some (.struct fs)) (hC : P.cellsOf t = 2)
    (hf0 : (fs[0]?).map (fun f => (f.type, f.offset)) = some (t0, 0)) (hf1 : (fs[1]?).map (fun f => (f.type, f.offset)) = some (t1, 1)) (hc0 : P.cellsOf t0 = 1) (hc1 : P.cellsOf t1 = 1)
    (ht0 : P.underlying t0 = some (.slice e0)) (he0 : P.underlying e0 = some (.int k)) (hce0 : P.cellsOf e0 = 1) (ht1 : P.underlying t1 = some (.slice e1)) (he1 : P.underlying e1 = some .bool) (hce1 : P.cellsOf e1 = 1)
    (hval : Value.okWide P w .any base0 t v) (h : DataW.Trod enc P w 0 (fun _ => true) true t v d p) :
    ∃ (u0 u1 : Value) (l : List Int) (m : List Bool), v = .agg #[u0, u1] ∧ Holds w (fun b => b < w.heap.size) 1 u0 l.length (l.map (Value.int k)) ∧ (∀ z ∈ l, (Lit.int k z).wf = true) ∧ Holds w (fun b => b < w.heap.size) 1 u1 m.length (m.map Value.bool) := by
  obtain ⟨cs, rfl, hsz⟩ := okWide_struct hs hval
  obtain ⟨fuel, hf⟩ := h
  have hcl : (Value.agg cs).cells.toList = cs.toList := rfl
  rw [hcl] at hf
  rw [hC] at hsz
  obtain ⟨l⟩ := cs
  match l, hsz with
  | [u0, u1], _ =>
    obtain ⟨ys, n, _, _, _, hyl, hfi⟩ := DataW.trod_struct hs hf
    rw [Option.map_eq_some_iff] at hf0 hf1
    obtain ⟨f0, q0, q1⟩ := hf0
    obtain ⟨f1, q2, q3⟩ := hf1
    injection q1 with q4 q5
    injection q3 with q6 q7
    have h0 := hfi 0 f0 q0
    have h1 := hfi 1 f1 q2
    rw [q5, q4, hc0] at h0
    rw [q7, q6, hc1] at h1
    have z0 : ys[0]? = some (ys[0]'(by rw [hyl]; exact (Array.getElem?_eq_some_iff.1 q0).1)) := List.getElem?_eq_getElem _
    have z1 : ys[1]? = some (ys[1]'(by rw [hyl]; exact (Array.getElem?_eq_some_iff.1 q2).1)) := List.getElem?_eq_getElem _
    rw [z0] at h0
    rw [z1] at h1
    obtain ⟨l, a1, a2⟩ := open_cellI ht0 he0 hce0 (c := u0) (by simpa using h0)
    obtain ⟨m, b1⟩ := open_cellO ht1 he1 hce1 (c := u1) (by simpa using h1)
    exact ⟨u0, u1, l, m, rfl, a1, a2, b1⟩
end
theorem ren_rep {w : World} {u0 u1 : Value} {l : List Int} {m : List Bool} (h0 : Holds w (fun b => b < w.heap.size) 1 u0 l.length (l.map (Value.int .i64))) (h1 : Holds w (fun b => b < w.heap.size) 1 u1 m.length (m.map Value.bool)) :
    WRep w (fun b => b < w.heap.size) (fun _ => undef) (lentHp []) (.agg ((row_ARename ⟨l, m⟩).map .v)) (.agg #[u0, u1]) := by
  have t0 : Tr w (fun b => b < w.heap.size) (.tree (l.map iRow)) u0 := h0.treeI fun _ h => h
  have t1 : Tr w (fun b => b < w.heap.size) (.tree (m.map oRow)) u1 := h1.treeO fun _ h => h
  refine ⟨[u0, u1], rfl, rfl, ?_, ?_⟩
  · intro y hy
    simp at hy
    rcases hy with rfl | rfl
    · exact t0.oneCell
    · exact t1.oneCell
  · intro i a b ha hb
    match i with
    | 0 => cases ha; cases hb; exact t0
    | 1 => cases ha; cases hb; exact t1
    | i + 2 => simp [row_ARename] at ha
end Go.Proofs.YtlhaoijkffhafaaDoor
