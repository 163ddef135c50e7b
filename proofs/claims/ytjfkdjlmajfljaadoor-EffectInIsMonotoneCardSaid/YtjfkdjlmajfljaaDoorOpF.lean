/- One operation on abstract values: structs and slices written out, make, slices of slices. -/
import Derived.Test.YtjfkdjlmajfljaaDoorOpE
namespace Go.Proofs.YtjfkdjlmajfljaaDoor
open Go.RowKit

section
variable {P : Program} {C : Ctx} {w : World} {η : Nat → Value} {F : Nat → Prop} {sl : Sl} {hp : Hp} {N : Nat} {a : Act} {o : Oper} {ev : Operand → SV} {t : TypeId} {y : Ty}

/-! ### Structs written out -/
theorem foldl_set (cs : Array Value) (off : Nat) : ∀ (vs : List Value) (k : Nat), off + k + vs.length ≤ cs.size → ((vs.zipIdx k).foldl (fun cs (c, j) => cs.setIfInBounds (off + j) c) cs).toList = putAt cs.toList (off + k) vs := by
  intro vs
  induction vs generalizing cs with
  | nil => intro k _; simp [putAt]
  | cons v vs ih =>
    intro k hk
    simp only [List.length_cons] at hk
    rw [List.zipIdx_cons, List.foldl_cons, ih (cs.setIfInBounds (off + k) v) (k + 1) (by simp; omega)]
    apply List.ext_getElem?
    intro j
    rw [putAt_getElem? (by simp; omega), putAt_getElem? (by simp; omega), Array.toList_setIfInBounds, List.getElem?_set]
    simp only [List.length_cons]
    by_cases h1 : off + k = j
    · subst h1
      rw [if_neg (by omega), if_pos rfl, if_pos (by simp; omega), if_pos (by omega)]
      simp
    · by_cases h2 : off + (k + 1) ≤ j ∧ j < off + (k + 1) + vs.length
      · rw [if_pos h2, if_pos (by omega), show j - (off + k) = (j - (off + (k + 1))) + 1 by omega, List.getElem?_cons_succ]
      · rw [if_neg h2, if_neg h1, if_neg (by omega)]

/-- The abstract cells of a struct written out: from the zero cells on, part by part. -/
def fillA (place : Nat → Option (Nat × Nat)) : List AV → List (Nat × WV) → Option (List AV)
  | cells, [] => some cells
  | cells, (i, v) :: r => match place i with
    | none => none
    | some (off, n) => if v.ok && v.cells.length == n && decide (off + n ≤ cells.length) then fillA place (putAt cells off v.cells) r else none

theorem run_fill (hH : HRep C w η F hp) (place : Nat → Option (Nat × Nat)) : ∀ (parts : List (Nat × WV)) (vals : List (Nat × Value)) (cells r : List AV) (cs : Array Value), parts.length = vals.length → (∀ (j : Nat) (p : Nat × WV) (q : Nat × Value), parts[j]? = some p → vals[j]? = some q → p.1 = q.1 ∧ WRep w F η hp p.2 q.2) →
    CsRep w F η hp cells cs.toList → fillA place cells parts = some r → ∃ cs', Instr.fill place cs vals = some cs' ∧ CsRep w F η hp r cs'.toList := by
  intro parts
  induction parts with
  | nil =>
    intro vals cells r cs hl _ hcs hr
    have : vals = [] := List.eq_nil_of_length_eq_zero hl.symm
    subst this
    simp only [fillA, Option.some.injEq] at hr
    subst hr
    exact ⟨cs, rfl, hcs⟩
  | cons p parts ih =>
    intro vals cells r cs hl hpv hcs hr
    obtain ⟨i, v⟩ := p
    cases vals with
    | nil => simp at hl
    | cons q vals =>
      obtain ⟨h1, h2⟩ := hpv 0 (i, v) q rfl rfl
      obtain ⟨i', u⟩ := q
      dsimp only at h1 h2
      subst h1
      unfold fillA at hr
      split at hr
      · cases hr
      · rename_i off n hpl
        split at hr
        · rename_i hcond
          simp only [Bool.and_eq_true, beq_iff_eq, decide_eq_true_eq] at hcond
          obtain ⟨⟨hok, hvl⟩, hle⟩ := hcond
          have hc := WRep.cells hH h2 hok
          have hsz : u.cells.size = n := by have := hc.1; simp at this; omega
          have hcl : cs.size = cells.length := by have := hcs.1; simpa using this
          have hf := foldl_set cs off u.cells.toList 0 (by simp; omega)
          simp only [Nat.add_zero] at hf
          have hfa : (u.cells.zipIdx.foldl (fun cs (x : Value × Nat) => cs.setIfInBounds (off + x.2) x.1) cs).toList = putAt cs.toList off u.cells.toList := by
            rw [← hf, ← Array.foldl_toList]
            congr 2
            simp
          obtain ⟨cs', h3, h4⟩ := ih vals (putAt cells off v.cells) r (u.cells.zipIdx.foldl (fun cs (x : Value × Nat) => cs.setIfInBounds (off + x.2) x.1) cs) (by simpa using hl)
            (fun j p q hp' hq => hpv (j + 1) p q (by simpa using hp') (by simpa using hq)) (by rw [hfa]; exact hcs.putAt hc) hr
          refine ⟨cs', ?_, h4⟩
          unfold Instr.fill
          simp only [hpl]
          rw [if_neg (by simp; omega)]
          exact h3
        · cases hr

theorem fill_congr {p q : Nat → Option (Nat × Nat)} (h : ∀ i, p i = q i) : p = q := funext h

/-- The parts of a literal: what each operand stands for. -/
def partsA (ev : Operand → SV) : List (Nat × Operand) → Option (List (Nat × WV))
  | [] => some []
  | (i, x) :: r => match ev x with
    | .w v => (partsA ev r).map ((i, v) :: ·)
    | .tup _ => none

theorem partsA_rep (hR : Reps C w η F sl hp N a) : ∀ {parts : List (Nat × Operand)} {l : List (Nat × WV)}, (∀ p ∈ parts, evalS sl p.2 = ev p.2) → partsA ev parts = some l →
    l.length = (parts.map fun p => (p.1, a.eval p.2)).length ∧ ∀ (j : Nat) (p : Nat × WV) (q : Nat × Value), l[j]? = some p → (parts.map fun p => (p.1, a.eval p.2))[j]? = some q → p.1 = q.1 ∧ WRep w F η hp p.2 q.2 := by
  intro parts
  induction parts with
  | nil => intro l _ h; simp [partsA] at h; subst h; simp
  | cons p parts ih =>
    intro l hev h
    obtain ⟨i, x⟩ := p
    unfold partsA at h
    split at h
    · rename_i v hv
      rw [Option.map_eq_some_iff] at h
      obtain ⟨l', h1, rfl⟩ := h
      obtain ⟨h2, h3⟩ := ih (fun p hp' => hev p (by simp [hp'])) h1
      refine ⟨by simpa using h2, fun j p q hp' hq => ?_⟩
      cases j with
      | zero =>
        simp at hp' hq
        subst hp'; subst hq
        have := hR.eval x
        rw [hev (i, x) (by simp), hv] at this
        exact ⟨rfl, this⟩
      | succ j => exact h3 j p q (by simpa using hp') (by simpa using hq)
    · cases h

def placeS (l : List (Nat × Nat × TypeId)) (i : Nat) : Option (Nat × Nat) := (l[i]?).map fun x => (x.1, x.2.1)

theorem mapM_places (l : List Field) (h : ∀ f ∈ l, ∃ i, P.info? f.type = some i) : l.mapM (fun f => (P.info? f.type).map fun i => (f.offset, i.size)) = some (l.map fun f => (f.offset, P.cellsOf f.type)) := by
  induction l with
  | nil => rfl
  | cons f l ih =>
    obtain ⟨i, hi⟩ := h f (by simp)
    rw [List.mapM_cons, ih (fun f hf => h f (by simp [hf]))]
    simp [hi, Program.cellsOf]

theorem OStep.build {parts : List (Nat × Operand)} {lp : List (Nat × WV)} {l : List (Nat × Nat × TypeId)} {r : List AV} (ho : o.op = .build t parts.toArray) (hy : TyFits P t y) (hs : y.shp = .struct l) (hz : y.zero ≠ []) (hnz : l.all (fun x => x.2.1 != 0) = true) (hpa : partsA ev parts = some lp) (hr : fillA (placeS l) (y.zero.map .v) lp = some r) :
    OStep P o ev ⟨[], [], [], .w (.agg r)⟩ :=
  .pure fun C w η F sl hp N a hR hev hnd => by
    obtain ⟨fs, h1, h2⟩ := hy.struct hs
    obtain ⟨⟨z, h3, h4⟩, h5⟩ := hy.zero (w := w) hz
    have hev' : ∀ p ∈ parts, evalS sl p.2 = ev p.2 := fun p hp' => hev p.2 (by simp [ho, Op.operands]; exact ⟨p.1, hp'⟩)
    obtain ⟨h6, h7⟩ := partsA_rep hR hev' hpa
    have hcs : CsRep w F η hp (y.zero.map .v) z.cells.toList := by
      rw [h4]
      refine csRep_closed (by simp) fun j x u hx hu => ?_
      rw [List.getElem?_map, hx] at hu
      simp only [Option.map_some, Option.some.injEq] at hu
      subst hu
      exact Tr.val0 (h5 x (List.mem_of_getElem? hx))
    obtain ⟨cs', h8, h9⟩ := run_fill hR.heap (placeS l) lp (parts.map fun p => (p.1, a.eval p.2)) _ r z.cells h6 h7 hcs hr
    have hinf : ∀ f ∈ fs.toList, ∃ i, P.info? f.type = some i := fun f hf => by
      have : (f.offset, P.cellsOf f.type, f.type) ∈ l := by rw [← h2]; exact List.mem_map.2 ⟨f, hf, rfl⟩
      have hne := List.all_eq_true.1 hnz _ this
      simp at hne
      cases hq : P.info? f.type with
      | none => simp [Program.cellsOf, hq] at hne
      | some i => exact ⟨i, rfl⟩
    have hm := mapM_places fs.toList hinf
    have hpl : (fun i => ((fs.toList.map fun f => (f.offset, P.cellsOf f.type)).toArray)[i]?) = placeS l := by
      funext i
      unfold placeS
      rw [← h2]
      simp only [List.getElem?_toArray, List.getElem?_map, Option.map_map]
      rfl
    obtain ⟨it, hi1, _, _, hi4⟩ := hy.info
    obtain ⟨z', hz1, _⟩ := hi4 hz
    have hzz : z' = z := by
      have : (zeroValue t).run P w = .ok z' w := by simp [zeroValue, typeInfo, hi1, hz1]
      rw [h3] at this
      injection this with this _
      exact this.symm
    have hbuilt : P.built t ((parts.map fun p => (p.1, a.eval p.2)).toArray).toList = some cs' := by
      unfold Program.built
      rw [hi1, h1]
      dsimp only
      rw [hz1, hm]
      dsimp only
      rw [hpl, hzz]
      exact h8
    refine ⟨.agg cs', ?_, cs'.toList, by simp, h9⟩
    unfold execOp; rw [ho]
    have := run_build (P := P) w t (parts.map fun p => (p.1, a.eval p.2)).toArray cs' hbuilt
    simp only [List.map_toArray, Sem.run_bind]
    rw [this]
    rfl

/-! ### Slices written out -/
/-- The rows of a slice literal: each part is closed, and they come in order. -/
def rowsA : Nat → List (Nat × WV) → Option (List (List TV))
  | _, [] => some []
  | k, (i, v) :: r => if i = k then (match v.closed with
    | some vs => (rowsA (k + 1) r).map (vs :: ·)
    | none => none) else none

theorem fill_rows {sz : Nat} (hsz0 : 0 < sz) (hH : HRep C w η F hp) : ∀ (parts : List (Nat × WV)) (vals : List (Nat × Value)) (k : Nat) (rows : List (List TV)) (pre rest : List Value), parts.length = vals.length → (∀ (j : Nat) (p : Nat × WV) (q : Nat × Value), parts[j]? = some p → vals[j]? = some q → p.1 = q.1 ∧ WRep w F η hp p.2 q.2) →
    rowsA k parts = some rows → (∀ row ∈ rows, row.length = sz) → pre.length = k * sz → rest.length = rows.length * sz →
    ∃ cs : List Value, Instr.fill (fun i => some (i * sz, sz)) (pre ++ rest).toArray vals = some (pre ++ cs).toArray ∧ cs.length = rows.length * sz ∧ ∀ (i j : Nat) (row : List TV) (x : TV), rows[i]? = some row → row[j]? = some x → ∃ u, cs[i * sz + j]? = some u ∧ Tr w F x u := by
  intro parts
  induction parts with
  | nil =>
    intro vals k rows pre rest hl _ hr _ _ hrl
    have : vals = [] := List.eq_nil_of_length_eq_zero hl.symm
    subst this
    simp only [rowsA, Option.some.injEq] at hr
    subst hr
    have : rest = [] := List.eq_nil_of_length_eq_zero (by simpa using hrl)
    subst this
    exact ⟨[], rfl, by simp, by simp⟩
  | cons p parts ih =>
    intro vals k rows pre rest hl hpv hr hrs hpre hrl
    obtain ⟨i, v⟩ := p
    cases vals with
    | nil => simp at hl
    | cons q vals =>
      obtain ⟨h1, h2⟩ := hpv 0 (i, v) q rfl rfl
      obtain ⟨i', u⟩ := q
      dsimp only at h1 h2
      subst h1
      unfold rowsA at hr
      split at hr
      · rename_i hik
        subst hik
        split at hr
        · rename_i vs hvs
          rw [Option.map_eq_some_iff] at hr
          obtain ⟨rows', hr', rfl⟩ := hr
          obtain ⟨hc1, hc2⟩ := closed_cells hvs
          have hc := WRep.cells hH h2 hc2
          rw [hc1] at hc
          have hvl : vs.length = sz := hrs vs (by simp)
          have hul : u.cells.toList.length = sz := by have := hc.1; simpa [hvl] using this
          have hrl' : rest.length = rows'.length * sz + sz := by rw [hrl]; simp [Nat.add_mul]
          have hf := foldl_set (pre ++ rest).toArray (i * sz) u.cells.toList 0 (by simp; rw [hpre, hrl']; simp at hul; omega)
          simp only [Nat.add_zero] at hf
          have hfa : (u.cells.zipIdx.foldl (fun cs (x : Value × Nat) => cs.setIfInBounds (i * sz + x.2) x.1) (pre ++ rest).toArray) = ((pre ++ u.cells.toList) ++ rest.drop sz).toArray := by
            apply Array.ext'
            have : (u.cells.zipIdx.foldl (fun cs (x : Value × Nat) => cs.setIfInBounds (i * sz + x.2) x.1) (pre ++ rest).toArray).toList = putAt (pre ++ rest) (i * sz) u.cells.toList := by
              rw [← hf, ← Array.foldl_toList]
              congr 2
              simp
            rw [this]
            unfold putAt
            rw [← hpre, List.take_left, List.drop_append, hul, List.drop_of_length_le (by omega)]
            simp
          obtain ⟨cs, h3, h4, h5⟩ := ih vals (i + 1) rows' (pre ++ u.cells.toList) (rest.drop sz) (by simpa using hl) (fun j p q hp' hq => hpv (j + 1) p q (by simpa using hp') (by simpa using hq)) hr' (fun r hr => hrs r (by simp [hr]))
            (by rw [List.length_append, hpre, hul, Nat.add_mul, Nat.one_mul]) (by rw [List.length_drop, hrl']; omega)
          refine ⟨u.cells.toList ++ cs, ?_, by rw [List.length_append, hul, h4]; simp [Nat.add_mul, Nat.add_comm], fun i2 j row x hi hj => ?_⟩
          · unfold Instr.fill
            dsimp only
            rw [if_neg (by simp; simp at hul; rw [hpre, hrl']; omega)]
            rw [hfa, h3, List.append_assoc]
          · cases i2 with
            | zero =>
              simp only [List.getElem?_cons_zero, Option.some.injEq] at hi
              subst hi
              have hjl : j < sz := by rw [← hvl]; exact (List.getElem?_eq_some_iff.1 hj).1
              rw [Nat.zero_mul, Nat.zero_add, List.getElem?_append_left (by omega)]
              have hju : j < u.cells.toList.length := by omega
              exact ⟨_, List.getElem?_eq_getElem hju, hc.2.2 j (.v x) _ (by simp [hj]) (List.getElem?_eq_getElem hju)⟩
            | succ i2 =>
              rw [List.getElem?_cons_succ] at hi
              obtain ⟨u', h6, h7⟩ := h5 i2 j row x hi hj
              refine ⟨u', ?_, h7⟩
              rw [List.getElem?_append_right (by rw [hul, Nat.add_mul]; omega), hul]
              rw [show (i2 + 1) * sz + j - sz = i2 * sz + j by rw [Nat.add_mul]; omega]
              exact h6
        · cases hr
      · cases hr

theorem rowsA_length : ∀ {parts : List (Nat × WV)} {k : Nat} {rows : List (List TV)}, rowsA k parts = some rows → rows.length = parts.length
  | [], _, _, h => by simp [rowsA] at h; subst h; rfl
  | (i, v) :: r, k, rows, h => by
    unfold rowsA at h
    split at h
    · split at h
      · rw [Option.map_eq_some_iff] at h
        obtain ⟨rows', h1, rfl⟩ := h
        simp [rowsA_length h1]
      · cases h
    · cases h

/-- A new array whose first n elements are rows. -/
theorem newSl (hR : Reps C w η F sl hp N a) {nb : Nat} {e : TypeId} {sz : Nat} {rows : List (List TV)} {cs : List Value} (hn : hp nb = none) (hu : UnmentB hp nb) (hus : UnmentS sl nb) (hbs : C.bs.length ≤ nb) (hm : rows.length ≤ maxLen)
    (hsz : ∀ row ∈ rows, row.length = sz) (hl : cs.length = rows.length * sz) (htr : ∀ (i j : Nat) (row : List TV) (x : TV), rows[i]? = some row → row[j]? = some x → ∃ u, cs[i * sz + j]? = some u ∧ Tr w F x u) :
    ∃ η', HRep C (w.alloc (.cells cs.toArray e)) η' F (hpSet hp nb (some (.sl e sz false rows))) ∧ (∀ g, F g → (w.alloc (.cells cs.toArray e)).heap[g]? = w.heap[g]?) ∧ (∀ c, UnmentS sl c ∨ Stays η η' hp (hpSet hp nb (some (.sl e sz false rows))) c) ∧ η' nb = .slice (some ⟨w.heap.size, 0, none⟩) rows.length rows.length := by
  have hold : ∀ g, g < w.heap.size → (w.alloc (.cells cs.toArray e)).heap[g]? = w.heap[g]? := fun g hg => heap_alloc_old w _ hg
  have hFc : ∀ g, F g → (w.alloc (.cells cs.toArray e)).heap[g]? = w.heap[g]? := fun g hg => hold g (hR.heap.Flt g hg)
  refine ⟨ηSet η nb (.slice (some ⟨w.heap.size, 0, none⟩) rows.length rows.length), ?_, hFc, fun c => ?_, ηSet_same _ _ _⟩
  · refine hR.heap.new hold (by simp) rfl rfl rfl hn hu hbs (fun g hg => by simp only [Value.ownBlock, Option.some.injEq] at hg; omega) rfl ⟨cs, ⟨hl, .inr ⟨w.heap.size, rows.length, cs.toArray, ηSet_same _ _ _, Nat.zero_le _, heap_alloc_new w _, Nat.le_refl _, hm, by simpa using hl, ?_⟩⟩, hsz, fun i j row x hi hj => ?_⟩
    · simp [← hl]
    · obtain ⟨u, h1, h2⟩ := htr i j row x hi hj
      exact ⟨u, h1, h2.keep (fun _ h => h) fun g hg o v => cell_keep (hFc g hg) o v⟩
  · by_cases hc : c = nb
    · subst hc; exact .inl hus
    · exact .inr (Stays.of_same (hpSet_other hc) (ηSet_other hc))

theorem OStep.buildSlice {n : Nat} {parts : List (Nat × Operand)} {lp : List (Nat × WV)} {e : TypeId} {ye : Ty} {nb : Nat} {rows : List (List TV)} (ho : o.op = .buildSlice t n parts.toArray) (hy : TyFits P t y) (hs : y.shp = .slice e) (hye : TyFits P e ye) (hz : ye.zero.length = ye.size) (h0 : 0 < ye.size)
    (hpa : partsA ev parts = some lp) (hr : rowsA 0 lp = some rows) (hsz : ∀ row ∈ rows, row.length = ye.size) (hn' : rows.length = n) (hcap : n * ye.size ≤ 16777216) : OStep P o ev ⟨[], [nb], [(nb, some (.sl e ye.size false rows))], .w (.c (.mref nb))⟩ :=
  .heap fun C w η F sl hp N a hR hev hnd hnew => by
    obtain ⟨hn, hu, hus, hbs⟩ := hnew nb (by simp)
    have hzn : ye.zero ≠ [] := by intro h; rw [h] at hz; simp at hz; omega
    obtain ⟨⟨z, h3, h4⟩, h5⟩ := hye.zero (w := w) hzn
    have hev' : ∀ p ∈ parts, evalS sl p.2 = ev p.2 := fun p hp' => hev p.2 (by simp [ho, Op.operands]; exact ⟨p.1, hp'⟩)
    obtain ⟨h6, h7⟩ := partsA_rep hR hev' hpa
    have hzl : z.cells.size = ye.size := by have := congrArg List.length h4; simpa [hz] using this
    obtain ⟨cs, h8, h9, h10⟩ := fill_rows h0 hR.heap lp (parts.map fun p => (p.1, a.eval p.2)) 0 rows [] ((List.range (n * ye.size)).map fun i => z.cells[i % ye.size]!) h6 h7 hr hsz (by simp) (by simp [hn'])
    have hm : rows.length ≤ maxLen := by
      have : n * 1 ≤ n * ye.size := Nat.mul_le_mul_left _ h0
      simp only [maxLen]
      omega
    obtain ⟨η', h11, h12, h13, h14⟩ := newSl hR (e := e) hn hu hus hbs hm hsz h9 h10
    refine ⟨.slice (some ⟨w.heap.size, 0, none⟩) n n, _, η', F, .inl ?_, h11, fun _ h => h, h12, h13, ?_⟩
    · unfold execOp; rw [ho]
      have hcap' : ¬ 2 ^ 24 < n * ye.size := by simp; omega
      by_cases hz0 : n * ye.size = 0
      · have hn0 : n = 0 := by
          rcases Nat.mul_eq_zero.1 hz0 with h | h
          · exact h
          · omega
        subst hn0
        simp only [Nat.zero_mul, List.range_zero, List.map_nil, List.append_nil, List.nil_append] at h8
        simp [Instr.buildSlice, run_underlying (hy.slice hs), hye.run_size, newRow]
        have hr0 : Array.map (fun _ => (default : Value)) (Array.range 0) = #[] := by apply Array.ext'; simp
        rw [hr0, h8]
        simp
      · have hz0' : ¬ (n = 0 ∨ ye.size = 0) := by rw [← Nat.mul_eq_zero]; exact hz0
        simp only [Instr.buildSlice, Sem.run_bind, run_underlying (hy.slice hs), Result.andThen_ok, hye.run_size, gt_iff_lt, if_neg hcap', if_neg hz0, h3, Sem.run_pure, List.map_toArray, hzl]
        have : (Array.map (fun x => z.cells[x % ye.size]!) (Array.range (n * ye.size))) = ([] ++ (List.range (n * ye.size)).map fun i => z.cells[i % ye.size]!).toArray := by
          apply Array.ext'; simp
        rw [this, h8]
        simp [newRow]
    · simp only [SRep, WRep, CRep, hpUpd, hpSet_same, h14, hn']

/-! ### make -/
theorem OStep.make {x z : Operand} {k k' : IntKind} {n : Nat} {e : TypeId} {ye : Ty} {nb : Nat} (ho : o.op = .makeSlice t x z) (hx : ev x = iS k (n : Int)) (hz' : ev z = iS k' (n : Int)) (hy : TyFits P t y) (hs : y.shp = .slice e) (hye : TyFits P e ye) (hz : ye.zero.length = ye.size) (h0 : 0 < ye.size)
    (hb : ye.bytes * n ≤ 281474976710656) (hm : n ≤ maxLen) : OStep P o ev ⟨[], [nb], [(nb, some (.sl e ye.size false (List.replicate n ye.zero)))], .w (.c (.mref nb))⟩ :=
  .heap fun C w η F sl hp N a hR hev hnd hnew => by
    obtain ⟨hn, hu, hus, hbs⟩ := hnew nb (by simp)
    have e1 := hR.int ((hev x (by simp [ho, Op.operands])).trans hx)
    have e2 := hR.int ((hev z (by simp [ho, Op.operands])).trans hz')
    obtain ⟨i, hi, hi1, hi2, hi3⟩ := hye.info
    obtain ⟨zv, hz1, hz2, hz3⟩ := hi3 (by intro h; rw [h] at hz; simp at hz; omega)
    have hzl : zv.cells.size = ye.size := by have := congrArg List.length hz2; simpa [hz] using this
    have hm' := hm
    simp only [maxLen] at hm'
    have hr := run_make (P := P) w t e i zv (hy.slice hs) hi hz1 k k' (n : Int) (n : Int) (by omega) (Int.le_refl _) (by rw [hi2]; have := Int.ofNat_le.2 hb; simpa using this) (by omega)
    simp only [Int.toNat_natCast, hi1] at hr
    have hcs : madeCells zv.cells (n * ye.size) = ((List.range (n * ye.size)).map fun i => zv.cells[i % ye.size]!).toArray := by
      apply Array.ext'; simp [madeCells, hzl]
    rw [hcs] at hr
    obtain ⟨η', h11, h12, h13, h14⟩ := newSl hR (e := e) (sz := ye.size) (rows := List.replicate n ye.zero) (cs := (List.range (n * ye.size)).map fun i => zv.cells[i % ye.size]!) hn hu hus hbs (by simpa using hm) (fun row hr => by rw [List.eq_of_mem_replicate hr, hz]) (by simp) (fun i j row x hi' hj => by
      rw [List.getElem?_replicate] at hi'
      split at hi'
      · rename_i hin
        injection hi' with hi'
        subst hi'
        have hjl : j < ye.size := by rw [← hz]; exact (List.getElem?_eq_some_iff.1 hj).1
        have hb := row_lt (rows := List.replicate n ye.zero) (sz := ye.size) (i := i) (by simpa using hin)
        simp only [List.length_replicate] at hb
        refine ⟨x.val0, ?_, Tr.val0 (hz3 x (List.mem_of_getElem? hj))⟩
        have em : (i * ye.size + j) % ye.size = j := by rw [Nat.mul_comm, Nat.mul_add_mod, Nat.mod_eq_of_lt hjl]
        rw [List.getElem?_map, List.getElem?_range (by omega), Option.map_some, em]
        have hjz : j < zv.cells.size := by omega
        rw [getElem!_pos zv.cells j hjz]
        have : zv.cells.toList[j]? = some x.val0 := by rw [hz2, List.getElem?_map, hj]; rfl
        rw [Array.getElem?_toList, Array.getElem?_eq_getElem hjz] at this
        exact this
      · cases hi')
    rw [List.length_replicate] at h14
    refine ⟨.slice (some ⟨w.heap.size, 0, none⟩) n n, _, η', F, .inl ?_, h11, fun _ h => h, h12, h13, ?_⟩
    · unfold execOp; rw [ho]
      simp only [e1, e2, Sem.run_bind, hr, Result.andThen_ok]
      rfl
    · simp only [SRep, WRep, CRep, hpUpd, hpSet_same, h14]
end
#print axioms OStep.make
end Go.Proofs.YtjfkdjlmajfljaaDoor
