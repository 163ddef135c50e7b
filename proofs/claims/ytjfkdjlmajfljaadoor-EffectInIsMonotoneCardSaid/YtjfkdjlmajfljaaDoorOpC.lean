/- One operation on abstract values: fields, new variables, stores. -/
import Derived.Test.YtjfkdjlmajfljaaDoorOpB
namespace Go.Proofs.YtjfkdjlmajfljaaDoor
open Go.RowKit

def WV.cells : WV → List AV
  | .c a => [a]
  | .agg l => l
def WV.ok : WV → Bool
  | .c .any => false
  | _ => true
/-- Cells with some of them replaced. -/
def putAt {α : Type} (l : List α) (o : Nat) (vs : List α) : List α := l.take o ++ vs ++ l.drop (o + vs.length)

section
variable {P : Program} {C : Ctx} {w : World} {η : Nat → Value} {F : Nat → Prop} {sl : Sl} {hp : Hp} {N : Nat} {a : Act} {o : Oper} {ev : Operand → SV} {t : TypeId} {y : Ty}

theorem CRep.one (h : HRep C w η F hp) {x : AV} {u : Value} (hx : CRep w F η hp x u) (hn : x ≠ .any) : u.oneCell' = true := by
  cases x with
  | v t => exact Tr.oneCell hx
  | mref b =>
    simp only [CRep] at hx
    split at hx
    · rename_i e sz f rows hb; rw [hx]; exact h.oneη b _ hb e sz f rows rfl
    · exact hx
  | ptr b i o =>
    simp only [CRep] at hx
    split at hx
    · obtain ⟨g, n, c, _, rfl⟩ := hx; rfl
    · obtain ⟨g, _, rfl⟩ := hx; rfl
    · exact hx
  | tptr row o => obtain ⟨g, p, cv, _, rfl, _⟩ := hx; rfl
  | one => exact hx
  | any => exact absurd rfl hn

theorem cells_one {u : Value} (h : u.oneCell' = true) : u.cells.toList = [u] := by
  cases u <;> first | rfl | (simp [Value.oneCell'] at h)

theorem WRep.cells (h : HRep C w η F hp) {x : WV} {u : Value} (hx : WRep w F η hp x u) (hok : x.ok = true) : CsRep w F η hp x.cells u.cells.toList := by
  cases x with
  | c a =>
    have hn : a ≠ .any := by rintro rfl; cases hok
    have h1 := CRep.one h hx hn
    rw [cells_one h1]
    refine ⟨rfl, by simpa using h1, fun i z v hz hv => ?_⟩
    cases i with
    | zero => simp [WV.cells] at hz hv; subst hz; subst hv; exact hx
    | succ i => simp [WV.cells] at hz
  | agg l => obtain ⟨us, rfl, h1⟩ := hx; exact h1

theorem CsRep.putAt {l : List AV} {us : List Value} {off : Nat} {vs : List AV} {us' : List Value} (h : CsRep w F η hp l us) (h' : CsRep w F η hp vs us') : CsRep w F η hp (putAt l off vs) (putAt us off us') := by
  obtain ⟨h1, h2, h3⟩ := h
  obtain ⟨h4, h5, h6⟩ := h'
  unfold Go.Proofs.YtjfkdjlmajfljaaDoor.putAt
  refine ⟨by simp [h1, h4], fun z hz => ?_, fun i x z hx hz => ?_⟩
  · rcases List.mem_append.1 hz with hz | hz
    · rcases List.mem_append.1 hz with hz | hz
      · exact h2 z (List.mem_of_mem_take hz)
      · exact h5 z hz
    · exact h2 z (List.mem_of_mem_drop hz)
  · have e1 : (us.take off).length = (l.take off).length := by simp [h1]
    rcases Nat.lt_or_ge i (l.take off).length with hi | hi
    · rw [List.append_assoc, List.getElem?_append_left hi] at hx
      rw [List.append_assoc, List.getElem?_append_left (by omega)] at hz
      rw [List.getElem?_take] at hx hz
      split at hx
      · rw [if_pos (by assumption)] at hz; exact h3 i x z hx hz
      · cases hx
    · rw [List.append_assoc, List.getElem?_append_right hi] at hx
      rw [List.append_assoc, List.getElem?_append_right (by omega), e1] at hz
      rcases Nat.lt_or_ge (i - (l.take off).length) vs.length with hj | hj
      · rw [List.getElem?_append_left hj] at hx
        rw [List.getElem?_append_left (by omega)] at hz
        exact h6 _ _ _ hx hz
      · rw [List.getElem?_append_right hj, List.getElem?_drop] at hx
        rw [List.getElem?_append_right (by omega), List.getElem?_drop, h4] at hz
        exact h3 _ _ _ hx hz

theorem run_fieldAt {l : List (Nat × Nat × TypeId)} (hy : TyFits P t y) (hs : y.shp = .struct l) {i fo n : Nat} {ft : TypeId} (hi : l[i]? = some (fo, n, ft)) (hn : n ≠ 0) (g p : Nat) : (Instr.fieldAt t (.pointer (some ⟨g, p, none⟩)) i).run P w = .ok (.pointer (some ⟨g, p + fo, none⟩)) w := by
  obtain ⟨fs, h1, h2⟩ := hy.struct hs
  rw [← h2, List.getElem?_map, Option.map_eq_some_iff] at hi
  obtain ⟨f, h3, h4⟩ := hi
  injection h4 with h4 h5
  injection h5 with h5 h6
  have h3' : fs[i]? = some f := by simpa using h3
  have hc : P.cellsOf f.type ≠ 0 := by rw [h5]; exact hn
  obtain ⟨ti, hti⟩ : ∃ ti, P.info? f.type = some ti := by
    cases hq : P.info? f.type with
    | none => simp [Program.cellsOf, hq] at hc
    | some ti => exact ⟨ti, rfl⟩
  have hsz : ti.size ≠ 0 := by simpa [Program.cellsOf, hti] using hc
  simp [Instr.fieldAt, run_underlying h1, h3', Instr.sureAddr, fieldPlace, sizeOf, typeInfo, hti, hsz, addr_add, h4]

theorem ptrExec {x : Operand} {i : Nat} (ho : o.op = .fieldAddr t x i) {u v : Value} (e : a.eval x = u) (h : (Instr.fieldAt t u i).run P w = .ok v w) : (execOp a.eval o).run P w = .ok (.value v) w := by
  unfold execOp; rw [ho]
  simp only [e, Sem.run_bind, h, Result.andThen_ok]
  rfl

theorem OStep.fldBx {x : Operand} {b i off : Nat} {e : TypeId} {cells : List AV} {l : List (Nat × Nat × TypeId)} {j fo n : Nat} {ft : TypeId} (ho : o.op = .fieldAddr t x j) (hx : ev x = .w (.c (.ptr b i off))) (hy : TyFits P t y) (hs : y.shp = .struct l) (hj : l[j]? = some (fo, n, ft)) (hn : n ≠ 0) :
    OStep P o ev ⟨[(b, .bx e cells)], [], [], .w (.c (.ptr b i (off + fo)))⟩ :=
  .pure fun C w η F sl hp N a hR hev hnd => by
    have hb : hp b = some (.bx e cells) := hnd (b, .bx e cells) (by simp)
    have h1 := hR.eval x
    rw [hev x (by simp [ho, Op.operands]), hx] at h1
    simp only [SRep, WRep, CRep, hb] at h1
    obtain ⟨g, h2, h3⟩ := h1
    refine ⟨_, ptrExec ho h3 (run_fieldAt hy hs hj hn g off), ?_⟩
    simp only [SRep, WRep, CRep, hb]
    exact ⟨g, h2, rfl⟩
theorem OStep.fldSl {x : Operand} {b i off : Nat} {e : TypeId} {sz : Nat} {f : Bool} {rows : List (List TV)} {l : List (Nat × Nat × TypeId)} {j fo n : Nat} {ft : TypeId} (ho : o.op = .fieldAddr t x j) (hx : ev x = .w (.c (.ptr b i off))) (hy : TyFits P t y) (hs : y.shp = .struct l) (hj : l[j]? = some (fo, n, ft)) (hn : n ≠ 0) :
    OStep P o ev ⟨[(b, .sl e sz f rows)], [], [], .w (.c (.ptr b i (off + fo)))⟩ :=
  .pure fun C w η F sl hp N a hR hev hnd => by
    have hb : hp b = some (.sl e sz f rows) := hnd (b, .sl e sz f rows) (by simp)
    have h1 := hR.eval x
    rw [hev x (by simp [ho, Op.operands]), hx] at h1
    simp only [SRep, WRep, CRep, hb] at h1
    obtain ⟨g, m, c, h2, h3⟩ := h1
    refine ⟨_, ptrExec ho h3 (run_fieldAt hy hs hj hn g _), ?_⟩
    simp only [SRep, WRep, CRep, hb]
    exact ⟨g, m, c, h2, by rw [Nat.add_assoc]⟩
theorem OStep.fldT {x : Operand} {row : List TV} {off : Nat} {l : List (Nat × Nat × TypeId)} {j fo n : Nat} {ft : TypeId} (ho : o.op = .fieldAddr t x j) (hx : ev x = .w (.c (.tptr row off))) (hy : TyFits P t y) (hs : y.shp = .struct l) (hj : l[j]? = some (fo, n, ft)) (hn : n ≠ 0) :
    OStep P o ev ⟨[], [], [], .w (.c (.tptr row (off + fo)))⟩ :=
  .pure fun C w η F sl hp N a hR hev hnd => by
    have h1 := hR.eval x
    rw [hev x (by simp [ho, Op.operands]), hx] at h1
    obtain ⟨g, p, cv, h2, h3, h4⟩ := h1
    exact ⟨_, ptrExec ho h3 (run_fieldAt hy hs hj hn g _), g, p, cv, h2, by rw [Nat.add_assoc], h4⟩

/-- The address of an element of an array that is a variable, or a part of one. -/
theorem OStep.idxA {x z : Operand} {b i off : Nat} {e : TypeId} {cells : List AV} {k : IntKind} {n m : Nat} {et : TypeId} {ye : Ty} (ho : o.op = .indexAddr t x z) (hx : ev x = .w (.c (.ptr b i off))) (hz : ev z = iS k (n : Int)) (hy : TyFits P t y) (hs : y.shp = .array m et) (hye : TyFits P et ye) (hn : n < m) :
    OStep P o ev ⟨[(b, .bx e cells)], [], [], .w (.c (.ptr b i (off + n * ye.size)))⟩ :=
  .pure fun C w η F sl hp N a hR hev hnd => by
    have hb : hp b = some (.bx e cells) := hnd (b, .bx e cells) (by simp)
    have h1 := hR.eval x
    have h5 := hR.int ((hev z (by simp [ho, Op.operands])).trans hz)
    rw [hev x (by simp [ho, Op.operands]), hx] at h1
    simp only [SRep, WRep, CRep, hb] at h1
    obtain ⟨g, h2, h3⟩ := h1
    refine ⟨.pointer (some ⟨g, off + n * ye.size, none⟩), ?_, ?_⟩
    · unfold execOp; rw [ho]
      simp [Instr.indexAt, h3, h5, asIntOf, run_underlying (hy.array hs), hye.run_size, hn, addr_add, Instr.sureAddr]
    · simp only [SRep, WRep, CRep, hb]
      exact ⟨g, h2, rfl⟩

/-- A pointer that is not nil. -/
theorem OStep.nilPtr {x : Operand} {b i off : Nat} {k : Blk} (ho : o.op = .nilCheck x) (hx : ev x = .w (.c (.ptr b i off))) : OStep P o ev ⟨[(b, k)], [], [], .w (.c (.ptr b i off))⟩ :=
  .pure fun C w η F sl hp N a hR hev hnd => by
    have hb : hp b = some k := hnd (b, k) (by simp)
    have h1 := hR.eval x
    rw [hev x (by simp [ho, Op.operands]), hx] at h1
    refine ⟨a.eval x, ?_, h1⟩
    simp only [SRep, WRep, CRep, hb] at h1
    unfold execOp; rw [ho]
    cases k with
    | sl e sz f rows => obtain ⟨g, m, c, h2, h3⟩ := h1; simp [h3]
    | bx e cells => obtain ⟨g, h2, h3⟩ := h1; simp [h3]
theorem OStep.nilTptr {x : Operand} {row : List TV} {off : Nat} (ho : o.op = .nilCheck x) (hx : ev x = .w (.c (.tptr row off))) : OStep P o ev ⟨[], [], [], .w (.c (.tptr row off))⟩ :=
  .pure fun C w η F sl hp N a hR hev hnd => by
    have h1 := hR.eval x
    rw [hev x (by simp [ho, Op.operands]), hx] at h1
    refine ⟨a.eval x, ?_, h1⟩
    obtain ⟨g, p, cv, h2, h3, h4⟩ := h1
    unfold execOp; rw [ho]
    simp [h3]

/-- A field of a struct by value. -/
theorem OStep.fieldV {x : Operand} {cells : List AV} {l : List (Nat × Nat × TypeId)} {j fo n : Nat} {ft : TypeId} {yf : Ty} {r : WV} (ho : o.op = .field t x j) (hx : ev x = .w (.agg cells)) (hy : TyFits P t y) (hs : y.shp = .struct l) (hj : l[j]? = some (fo, n, ft)) (hyf : TyFits P ft yf) (hr : cut yf cells fo = some r) :
    OStep P o ev ⟨[], [], [], .w r⟩ :=
  .pure fun C w η F sl hp N a hR hev hnd => by
    have h1 := hR.eval x
    rw [hev x (by simp [ho, Op.operands]), hx] at h1
    obtain ⟨us, h2, hl, h4, h5⟩ := h1
    obtain ⟨fs, h6, h7⟩ := hy.struct hs
    rw [← h7, List.getElem?_map, Option.map_eq_some_iff] at hj
    obtain ⟨f, h8, h9⟩ := hj
    injection h9 with h9 h10
    injection h10 with h10 h11
    have h8' : fs[j]? = some f := by simpa using h8
    have hrun : ∀ v, (part ft us.toArray fo).run P w = .ok v w → (execOp a.eval o).run P w = .ok (.value v) w := fun v hv => by
      unfold execOp; rw [ho]
      simp [Instr.field, run_underlying h6, h8', asAgg, h2, h9, h11, hv]
    unfold cut at hr
    split at hr
    · rename_i ha
      split at hr
      · rename_i hle
        injection hr with hr
        subst hr
        refine ⟨.agg (us.toArray.extract fo (fo + yf.size)), hrun _ (by unfold part; rw [Sem.run_bind, hyf.run_isAgg, ha]; simp [hyf.run_size]), (us.drop fo).take yf.size, ?_, ?_, ?_, ?_⟩
        · congr 1; apply Array.ext'; simp [List.extract_eq_take_drop]
        · rw [List.length_take, List.length_drop, List.length_take, List.length_drop, hl]
        · intro z hz; exact h4 z (List.mem_of_mem_drop (List.mem_of_mem_take hz))
        · intro i z v hz hv
          rw [List.getElem?_take] at hz hv
          split at hz
          · rw [if_pos (by assumption)] at hv
            rw [List.getElem?_drop] at hz hv
            exact h5 _ _ _ hz hv
          · cases hz
      · cases hr
    · rename_i ha
      rw [Option.map_eq_some_iff] at hr
      obtain ⟨z, h12, rfl⟩ := hr
      have hlt : fo < us.length := by rw [hl]; exact (List.getElem?_eq_some_iff.1 h12).1
      refine ⟨us[fo], hrun _ (by unfold part; rw [Sem.run_bind, hyf.run_isAgg, Bool.eq_false_iff.2 ha]; simp [hlt]), h5 fo z _ h12 (List.getElem?_eq_getElem hlt)⟩

/-! ### New variables -/
theorem csRep_new {hp' : Hp} {w' : World} {η' : Nat → Value} {l : List AV} {us : List Value} (hH : HRep C w η F hp) (h : CsRep w F η hp l us) (hFc : ∀ g, F g → w'.heap[g]? = w.heap[g]?) (hst : ∀ c, l.any (AV.ment c) = true → Stays η η' hp hp' c) : CsRep w' F η' hp' l us :=
  h.keep (fun _ h => h) (fun g hg o v => cell_keep (hFc g hg) o v) hH.oneη hst

theorem newBx (hR : Reps C w η F sl hp N a) {b : Nat} {e : TypeId} {cells : List AV} {us : List Value} (hcs : CsRep w F η hp cells us) (hn : hp b = none) (hu : UnmentB hp b) (hus : UnmentS sl b) (hbs : C.bs.length ≤ b) (hm : cells.any (AV.ment b) = false) :
    ∃ w' η', w' = w.alloc (.cells us.toArray e) ∧ HRep C w' η' F (hpSet hp b (some (.bx e cells))) ∧ (∀ g, F g → w'.heap[g]? = w.heap[g]?) ∧ (∀ c, UnmentS sl c ∨ Stays η η' hp (hpSet hp b (some (.bx e cells))) c) ∧
      η' b = .slice (some ⟨w.heap.size, 0, none⟩) 1 1 := by
  have hold : ∀ g, g < w.heap.size → (w.alloc (.cells us.toArray e)).heap[g]? = w.heap[g]? := fun g hg => heap_alloc_old w _ hg
  have hst : ∀ c, c ≠ b → Stays η (ηSet η b (.slice (some ⟨w.heap.size, 0, none⟩) 1 1)) hp (hpSet hp b (some (.bx e cells))) c := fun c hc => Stays.of_same (hpSet_other hc) (ηSet_other hc)
  have hFc : ∀ g, F g → (w.alloc (.cells us.toArray e)).heap[g]? = w.heap[g]? := fun g hg => hold g (hR.heap.Flt g hg)
  refine ⟨_, ηSet η b (.slice (some ⟨w.heap.size, 0, none⟩) 1 1), rfl, ?_, hFc, fun c => ?_, ηSet_same _ _ _⟩
  · refine hR.heap.new hold (by simp) rfl rfl rfl hn hu hbs (fun g hg => by simp only [Value.ownBlock, Option.some.injEq] at hg; omega) rfl ⟨w.heap.size, us, ηSet_same _ _ _, heap_alloc_new w _, ?_⟩
    exact csRep_new hR.heap hcs hFc fun c hc => hst c (by rintro rfl; rw [hm] at hc; cases hc)
  · by_cases hc : c = b
    · subst hc; exact .inl hus
    · exact .inr (hst c hc)

theorem OStep.box {x : Operand} {b : Nat} {v : WV} (ho : o.op = .box t x) (hx : ev x = .w v) (hok : v.ok = true) (hm : v.cells.any (AV.ment b) = false) : OStep P o ev ⟨[], [b], [(b, some (.bx t v.cells))], .w (.c (.ptr b 0 0))⟩ :=
  .heap fun C w η F sl hp N a hR hev hnd hnew => by
    obtain ⟨hn, hu, hus, hbs⟩ := hnew b (by simp)
    have h1 := hR.eval x
    rw [hev x (by simp [ho, Op.operands]), hx] at h1
    have h2 := WRep.cells hR.heap h1 hok
    obtain ⟨w', η', hw, h3, h4, h5, h6⟩ := newBx (e := t) hR h2 hn hu hus hbs hm
    refine ⟨.pointer (some ⟨w.heap.size, 0, none⟩), w', η', F, .inl ?_, h3, fun _ h => h, h4, h5, ?_⟩
    · unfold execOp; rw [ho, hw]
      simp [Instr.box, newVar, newRow]
    · simp only [SRep, WRep, CRep, hpUpd, hpSet_same]
      exact ⟨w.heap.size, h6, rfl⟩

theorem OStep.alloc {b : Nat} (ho : o.op = .alloc t) (hy : TyFits P t y) (hz : y.zero ≠ []) : OStep P o ev ⟨[], [b], [(b, some (.bx t (y.zero.map .v)))], .w (.c (.ptr b 0 0))⟩ :=
  .heap fun C w η F sl hp N a hR hev hnd hnew => by
    obtain ⟨hn, hu, hus, hbs⟩ := hnew b (by simp)
    obtain ⟨⟨z, h1, h2⟩, h3⟩ := hy.zero (w := w) hz
    have hcs : CsRep w F η hp (y.zero.map .v) z.cells.toList := by
      rw [h2]
      refine csRep_closed (by simp) fun j x u hx hu => ?_
      rw [List.getElem?_map, hx] at hu
      simp only [Option.map_some, Option.some.injEq] at hu
      subst hu
      exact Tr.val0 (h3 x (List.mem_of_getElem? hx))
    have hm : (y.zero.map AV.v).any (AV.ment b) = false := by rw [List.any_map]; simp [AV.ment]
    obtain ⟨w', η', hw, h4, h5, h6, h7⟩ := newBx (e := t) hR hcs hn hu hus hbs hm
    refine ⟨.pointer (some ⟨w.heap.size, 0, none⟩), w', η', F, .inl ?_, h4, fun _ h => h, h5, h6, ?_⟩
    · unfold execOp; rw [ho, hw]
      simp [Instr.alloc, h1, newVar, newRow]
    · simp only [SRep, WRep, CRep, hpUpd, hpSet_same]
      exact ⟨w.heap.size, h7, rfl⟩

/-! ### Stores -/
theorem run_storeAt (hy : TyFits P t y) {g p : Nat} {v : Value} {cur : List Value} {e : TypeId} (hg : w.heap[g]? = some (.cells cur.toArray e (0, 0))) (hv : v.cells.size = y.size) (hle : p + y.size ≤ cur.length) (h1 : ∀ u ∈ v.cells.toList, u.oneCell' = true) :
    (Instr.storeAt t (.pointer (some ⟨g, p, none⟩)) v).run P w = .ok () (w.setRow g (putAt cur p v.cells.toList).toArray) := by
  have := run_storeCells_at P g p e v.cells.toList 0 cur.toArray w hg (by simp; omega) h1
  simp only [Nat.add_zero] at this
  unfold Instr.storeAt
  simp only [Instr.sureAddr, Sem.run_bind, Sem.run_pure, Result.andThen_ok, storeVar, hy.run_size]
  rw [if_neg (by simp [hv])]
  exact this

theorem OStep.storeBx {x z : Operand} {b i off : Nat} {e : TypeId} {cells : List AV} {v : WV} (ho : o.op = .store t x z) (hx : ev x = .w (.c (.ptr b i off))) (hz : ev z = .w v) (hy : TyFits P t y) (hok : v.ok = true) (hl : v.cells.length = y.size) (hle : off + y.size ≤ cells.length) :
    OStep P o ev ⟨[(b, .bx e cells)], [], [(b, some (.bx e (putAt cells off v.cells)))], SV.any⟩ :=
  .heap fun C w η F sl hp N a hR hev hnd hnew => by
    have hb : hp b = some (.bx e cells) := hnd (b, .bx e cells) (by simp)
    have h1 := hR.eval x
    rw [hev x (by simp [ho, Op.operands]), hx] at h1
    simp only [SRep, WRep, CRep, hb] at h1
    obtain ⟨g, h2, h3⟩ := h1
    have h4 := hR.eval z
    rw [hev z (by simp [ho, Op.operands]), hz] at h4
    have h5 := WRep.cells hR.heap h4 hok
    obtain ⟨g', cs, h6, h7, h8⟩ := hR.heap.blocks b _ hb
    rw [h2] at h6
    injection h6 with h6
    injection h6 with h6
    injection h6 with h6
    subst h6
    have hrun := run_storeAt (P := P) (w := w) hy (g := g) (p := off) h7 (v := a.eval z) (by have := h5.1; simpa [hl] using this) (by rw [h8.1]; exact hle) h5.2.1
    have hst : ∀ c, Stays η η hp (hpSet hp b (some (.bx e (putAt cells off v.cells)))) c := fun c => by
      by_cases hc : c = b
      · subst hc; exact .inr (.inr ⟨e, cells, _, hb, hpSet_same _ _ _, rfl⟩)
      · exact Stays.of_same (hpSet_other hc) rfl
    have hgF : ¬ F g := hR.heap.liveF b _ g hb rfl (by rw [h2]; rfl)
    have hFc : ∀ g', F g' → (w.setRow g (putAt cs off (a.eval z).cells.toList).toArray).heap[g']? = w.heap[g']? := fun g' hg' => setRow_other w g g' _ (by rintro rfl; exact hgF hg')
    refine ⟨undef, _, η, F, .inr ⟨?_, rfl⟩, ?_, fun _ h => h, hFc, fun c => .inr (hst c), SRep.any _ _ _ _ _⟩
    · unfold execOp; rw [ho]
      simp only [h3, Sem.run_bind, hrun, Result.andThen_ok]
      rfl
    · refine hR.heap.write (g0 := g) hb rfl rfl (by rw [h2]; rfl) (hst b) (fun e' c' _ => ⟨_, _, rfl⟩) (fun g' hg' => setRow_other w g g' _ hg') (by simp) rfl rfl rfl ⟨g, putAt cs off (a.eval z).cells.toList, h2, setRow_heap w g _ _ _ _ h7, ?_⟩
      exact csRep_new hR.heap (h8.putAt h5) hFc fun c _ => hst c
end
#print axioms OStep.storeBx
end Go.Proofs.YtjfkdjlmajfljaaDoor
