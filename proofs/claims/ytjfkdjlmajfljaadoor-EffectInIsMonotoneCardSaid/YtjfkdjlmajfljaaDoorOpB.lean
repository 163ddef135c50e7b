/- One operation on abstract values: memory: addresses, loads, stores, new variables, slice literals. -/
import Derived.Test.YtjfkdjlmajfljaaDoorOpA
namespace Go.Proofs.YtjfkdjlmajfljaaDoor
open Go.RowKit

theorem addr_add (g p j : Nat) : (⟨g, p, none⟩ : Addr).add j = ⟨g, p + j, none⟩ := by unfold Addr.add; split <;> simp_all

section
variable {P : Program} {t : TypeId} {y : Ty} {w : World}

theorem run_loadOne (hy : TyFits P t y) (ha : y.isAgg = false) {g p : Nat} {u : Value} (hc : w.cell? ⟨g, p, none⟩ = some u) : (loadVar t ⟨g, p, none⟩).run P w = .ok u w := by
  unfold loadVar
  rw [Sem.run_bind, hy.run_isAgg, ha]
  simp [hc]
theorem run_loadAgg (hy : TyFits P t y) (ha : y.isAgg = true) {g p : Nat} {us : List Value} (hn : us.length = y.size) (hc : ∀ j u, us[j]? = some u → w.cell? ⟨g, p + j, none⟩ = some u) : (loadVar t ⟨g, p, none⟩).run P w = .ok (.agg us.toArray) w := by
  have hl := run_loadCells_list (P := P) w ⟨g, p, none⟩ us (fun j v hv => by rw [addr_add]; exact hc j v hv)
  unfold loadVar
  rw [Sem.run_bind, hy.run_isAgg, ha]
  simp [hy.run_size, ← hn, hl]
end

/-- What a load yields: one cell, or some cells. -/
def cut (y : Ty) (cells : List AV) (o : Nat) : Option WV :=
  if y.isAgg then (if o + y.size ≤ cells.length then some (.agg ((cells.drop o).take y.size)) else none) else (cells[o]?).map .c

section
variable {P : Program} {C : Ctx} {w : World} {η : Nat → Value} {F : Nat → Prop} {sl : Sl} {hp : Hp} {N : Nat} {a : Act} {o : Oper} {ev : Operand → SV} {t : TypeId} {y : Ty}

theorem run_cut (hy : TyFits P t y) {cells : List AV} {i : Nat} {r : WV} (hr : cut y cells i = some r) {g p : Nat} {us : List Value} (hus : CsRep w F η hp cells us) (hc : ∀ j u, us[j]? = some u → w.cell? ⟨g, p + j, none⟩ = some u) :
    ∃ u, (loadVar t ⟨g, p + i, none⟩).run P w = .ok u w ∧ WRep w F η hp r u := by
  unfold cut at hr
  split at hr
  · rename_i ha
    split at hr
    · rename_i hle
      injection hr with hr
      subst hr
      refine ⟨_, run_loadAgg hy ha (us := (us.drop i).take y.size) (by rw [List.length_take, List.length_drop, hus.1]; omega) (fun j u hj => ?_), (us.drop i).take y.size, rfl, ?_, ?_, ?_⟩
      · rw [List.getElem?_take] at hj
        split at hj
        · rw [List.getElem?_drop] at hj
          rw [Nat.add_assoc]
          exact hc _ _ hj
        · cases hj
      · rw [List.length_take, List.length_drop, List.length_take, List.length_drop, hus.1]
      · intro y hy; exact hus.2.1 y (List.mem_of_mem_drop (List.mem_of_mem_take hy))
      · intro j x z hx hz
        rw [List.getElem?_take] at hx hz
        split at hx
        · rw [if_pos (by assumption)] at hz
          rw [List.getElem?_drop] at hx hz
          exact hus.2.2 _ _ _ hx hz
        · cases hx
    · cases hr
  · rename_i ha
    rw [Option.map_eq_some_iff] at hr
    obtain ⟨x, h1, h2⟩ := hr
    subst h2
    have hlt : i < us.length := by rw [hus.1]; exact (List.getElem?_eq_some_iff.1 h1).1
    exact ⟨us[i], run_loadOne hy (by simpa using ha) (hc i _ (List.getElem?_eq_getElem hlt)), hus.2.2 i x _ h1 (List.getElem?_eq_getElem hlt)⟩

theorem csRep_closed {row : List TV} {us : List Value} (hl : us.length = row.length) (h : ∀ (j : Nat) (x : TV) (u : Value), row[j]? = some x → us[j]? = some u → Tr w F x u) : CsRep w F η hp (row.map .v) us := by
  refine ⟨by simp [hl], fun u hu => ?_, fun i x u hx hu => ?_⟩
  · obtain ⟨j, hj⟩ := List.mem_iff_getElem?.1 hu
    have hlt : j < row.length := by rw [← hl]; exact (List.getElem?_eq_some_iff.1 hj).1
    exact (h j row[j] u (List.getElem?_eq_getElem hlt) hj).oneCell
  · rw [List.getElem?_map, Option.map_eq_some_iff] at hx
    obtain ⟨z, h1, rfl⟩ := hx
    exact h i z u h1 hu

theorem loadExec {x : Operand} (ho : o.op = .load t x) {g p : Nat} {u : Value} (e : a.eval x = .pointer (some ⟨g, p, none⟩)) (h : (loadVar t ⟨g, p, none⟩).run P w = .ok u w) : (execOp a.eval o).run P w = .ok (.value u) w := by
  unfold execOp; rw [ho]
  simp only [Instr.loadAt, Instr.sureAddr, e, Sem.run_bind, Sem.run_pure, Result.andThen_ok, h]

/-- Load from a variable. -/
theorem OStep.loadBx {x : Operand} {b i off : Nat} {e : TypeId} {cells : List AV} {r : WV} (ho : o.op = .load t x) (hx : ev x = .w (.c (.ptr b i off))) (hy : TyFits P t y) (hr : cut y cells off = some r) : OStep P o ev ⟨[(b, .bx e cells)], [], [], .w r⟩ :=
  .pure fun C w η F sl hp N a hR hev hn => by
    have hb : hp b = some (.bx e cells) := hn (b, .bx e cells) (by simp)
    have h1 := hR.eval x
    rw [hev x (by simp [ho, Op.operands]), hx] at h1
    simp only [SRep, WRep, CRep, hb] at h1
    obtain ⟨g, h2, h3⟩ := h1
    obtain ⟨g', cs, h4, h5, h6⟩ := hR.heap.blocks b _ hb
    rw [h2] at h4
    injection h4 with h4
    injection h4 with h4
    injection h4 with h4
    subst h4
    obtain ⟨u, h7, h8⟩ := run_cut (w := w) hy hr (g := g) (p := 0) h6 (fun j u hj => by rw [Nat.zero_add, cell_of_row w g j _ _ _ h5]; simpa using hj)
    rw [Nat.zero_add] at h7
    exact ⟨u, loadExec ho h3 h7, h8⟩

/-- Load from an element that never changes. -/
theorem OStep.loadT {x : Operand} {row : List TV} {off : Nat} {r : WV} (ho : o.op = .load t x) (hx : ev x = .w (.c (.tptr row off))) (hy : TyFits P t y) (hr : cut y (row.map .v) off = some r) : OStep P o ev ⟨[], [], [], .w r⟩ :=
  .pure fun C w η F sl hp N a hR hev hn => by
    have h1 := hR.eval x
    rw [hev x (by simp [ho, Op.operands]), hx] at h1
    obtain ⟨g, p, cv, h2, h3, h4⟩ := h1
    have hus : ∀ (j : Nat) (u : Value), ((List.range row.length).map cv)[j]? = some u → ∃ z, row[j]? = some z ∧ u = cv j := fun j u hj => by
      rw [List.getElem?_map, Option.map_eq_some_iff] at hj
      obtain ⟨z, h5, h6⟩ := hj
      obtain ⟨h7, h8⟩ := List.getElem?_eq_some_iff.1 h5
      simp at h7 h8
      exact ⟨row[j], List.getElem?_eq_getElem h7, by rw [← h6, ← h8]⟩
    obtain ⟨u, h7, h8⟩ := run_cut (w := w) hy hr (g := g) (p := p) (us := (List.range row.length).map cv)
      (csRep_closed (by simp) fun j x u hx hu => by obtain ⟨z, h5, rfl⟩ := hus j u hu; exact (h4 j x hx).2)
      (fun j u hj => by obtain ⟨z, h5, rfl⟩ := hus j u hj; exact (h4 j z h5).1)
    exact ⟨u, loadExec ho h3 h7, h8⟩

theorem BRep.row {b : Nat} {e : TypeId} {sz : Nat} {f : Bool} {rows : List (List TV)} (h : BRep w F η hp b (.sl e sz f rows)) {i : Nat} {row : List TV} (hi : rows[i]? = some row) :
    ∃ g n c, η b = .slice (some ⟨g, 0, none⟩) n c ∧ row.length = sz ∧ ∃ us : List Value, us.length = row.length ∧ (∀ (j : Nat) (x : TV) (u : Value), row[j]? = some x → us[j]? = some u → Tr w F x u) ∧ ∀ (j : Nat) (u : Value), us[j]? = some u → w.cell? ⟨g, i * sz + j, none⟩ = some u := by
  obtain ⟨cells, h1, h2, h3⟩ := h
  have hrl : row.length = sz := h2 row (List.mem_of_getElem? hi)
  have hlt : i < rows.length := (List.getElem?_eq_some_iff.1 hi).1
  rcases h1.2 with ⟨e1, e2⟩ | ⟨g, cap, cur, e1, e2, e3, e4⟩
  · omega
  · have hcl := h1.cells (g := g) (by rw [e1]; rfl)
    refine ⟨g, _, _, e1, hrl, (cells.drop (i * sz)).take sz, ?_, fun j x u hx hu => ?_, fun j u hu => ?_⟩
    · have : i * sz + sz ≤ cells.length := by rw [h1.1]; calc i * sz + sz = (i + 1) * sz := by rw [Nat.add_mul, Nat.one_mul]
                                                    _ ≤ _ := Nat.mul_le_mul_right _ hlt
      rw [List.length_take, List.length_drop]; omega
    · rw [List.getElem?_take] at hu
      split at hu
      · rw [List.getElem?_drop] at hu
        obtain ⟨u', h5, h6⟩ := h3 i j row x hi hx
        rw [hu] at h5
        injection h5 with h5
        subst h5
        exact h6
      · cases hu
    · rw [List.getElem?_take] at hu
      split at hu
      · rw [List.getElem?_drop] at hu
        have := hcl _ _ hu
        rw [addr_add, Nat.zero_add] at this
        exact this
      · cases hu

/-- Load from an element of a slice of one's own. -/
theorem OStep.loadSl {x : Operand} {b i off : Nat} {e : TypeId} {sz : Nat} {f : Bool} {rows : List (List TV)} {row : List TV} {r : WV} (ho : o.op = .load t x) (hx : ev x = .w (.c (.ptr b i off))) (hy : TyFits P t y) (hi : rows[i]? = some row) (hr : cut y (row.map .v) off = some r) :
    OStep P o ev ⟨[(b, .sl e sz f rows)], [], [], .w r⟩ :=
  .pure fun C w η F sl hp N a hR hev hn => by
    have hb : hp b = some (.sl e sz f rows) := hn (b, .sl e sz f rows) (by simp)
    have h1 := hR.eval x
    rw [hev x (by simp [ho, Op.operands]), hx] at h1
    simp only [SRep, WRep, CRep, hb] at h1
    obtain ⟨g, n, c, h2, h3⟩ := h1
    obtain ⟨g', n', c', h4, hsz, us, h5, h6, h7⟩ := (hR.heap.blocks b _ hb).row hi
    rw [h2] at h4
    injection h4 with h4
    injection h4 with h4
    injection h4 with h4
    subst h4
    obtain ⟨u, h8, h9⟩ := run_cut (w := w) hy hr (g := g) (p := i * sz) (csRep_closed h5 h6) h7
    exact ⟨u, loadExec ho h3 h8, h9⟩

/-- The address of an element of a slice that never changes. -/
theorem OStep.idxT {x z : Operand} {rows : List (List TV)} {row : List TV} {k : IntKind} {n : Nat} {e : TypeId} {ye : Ty} (ho : o.op = .indexAddr t x z) (hx : ev x = tS rows) (hz : ev z = iS k (n : Int)) (hy : TyFits P t y) (hs : y.shp = .slice e) (hye : TyFits P e ye) (hi : rows[n]? = some row) (hsz : row.length = ye.size) :
    OStep P o ev ⟨[], [], [], .w (.c (.tptr row 0))⟩ :=
  .pure fun C w η F sl hp N a hR hev hn => by
    have h1 := hR.treev ((hev x (by simp [ho, Op.operands])).trans hx)
    have h2 := hR.int ((hev z (by simp [ho, Op.operands])).trans hz)
    generalize hu : a.eval x = u at h1
    cases h1 with
    | empty a c hm => simp at hi
    | tree _ g o' sz c cv hc hm hsz' hF hcell htr =>
      have hsz2 : sz = ye.size := by rw [← hsz, hsz' row (List.mem_of_getElem? hi)]
      have hlt : n < rows.length := (List.getElem?_eq_some_iff.1 hi).1
      refine ⟨.pointer (some ⟨g, o' + n * sz, none⟩), ?_, g, o' + n * sz, fun j => cv n j, hF, rfl, fun j x hj => ⟨?_, htr n j row x hi hj⟩⟩
      · unfold execOp; rw [ho]
        simp [Instr.indexAt, hu, h2, asIntOf, run_underlying (hy.slice hs), hye.run_size, hlt, addr_add, hsz2]
      · rw [Nat.add_assoc]; exact hcell n j row x hi hj

/-- The address of an element of a slice of one's own. -/
theorem OStep.idxM {x z : Operand} {b : Nat} {e' : TypeId} {sz : Nat} {f : Bool} {rows : List (List TV)} {k : IntKind} {n : Nat} {e : TypeId} {ye : Ty} (ho : o.op = .indexAddr t x z) (hx : ev x = .w (.c (.mref b))) (hz : ev z = iS k (n : Int)) (hy : TyFits P t y) (hs : y.shp = .slice e) (hye : TyFits P e ye) (hi : n < rows.length) (hsz : sz = ye.size) :
    OStep P o ev ⟨[(b, .sl e' sz f rows)], [], [], .w (.c (.ptr b n 0))⟩ :=
  .pure fun C w η F sl hp N a hR hev hn => by
    have hb : hp b = some (.sl e' sz f rows) := hn (b, .sl e' sz f rows) (by simp)
    have h1 := hR.mrefv ((hev x (by simp [ho, Op.operands])).trans hx) hb
    have h2 := hR.int ((hev z (by simp [ho, Op.operands])).trans hz)
    obtain ⟨g, nn, c, h3, _⟩ := (hR.heap.blocks b _ hb).row (List.getElem?_eq_getElem hi)
    obtain ⟨cells, h4, _⟩ := hR.heap.blocks b _ hb
    have hnn : nn = rows.length := by
      rcases h4.2 with ⟨e1, e2⟩ | ⟨g', cap, cur, e1, _⟩
      · omega
      · rw [h3] at e1; injection e1
    refine ⟨.pointer (some ⟨g, n * sz, none⟩), ?_, ?_⟩
    · unfold execOp; rw [ho]
      simp [Instr.indexAt, h1, h3, h2, asIntOf, run_underlying (hy.slice hs), hye.run_size, hnn, hi, addr_add, hsz]
    · simp only [SRep, WRep, CRep, hb]
      exact ⟨g, nn, c, h3, by rw [Nat.add_zero]⟩

theorem fieldPlace_run {l : List (Nat × Nat × TypeId)} {fs : Array Field} (hl : fs.toList.map (fun f => (f.offset, P.cellsOf f.type, f.type)) = l) {i fo : Nat} {q : Nat × TypeId} (hi : l[i]? = some (fo, q)) : ∃ f : Field, fs[i]? = some f ∧ f.offset = fo := by
  rw [← hl, List.getElem?_map, Option.map_eq_some_iff] at hi
  obtain ⟨f, h1, h2⟩ := hi
  injection h2 with h2 h3
  exact ⟨f, by simpa using h1, h2⟩
end
#print axioms OStep.idxM
end Go.Proofs.YtjfkdjlmajfljaaDoor
