/- Parts of a slice of one's own, and copies between them; products of unsigned numbers. -/
import Derived.Test.YtmefipdgohflmaaDoorLg
import Derived.Laws.CopyRow
import Derived.Laws.IdiomCopy
set_option linter.unusedSimpArgs false
set_option maxRecDepth 20000
set_option linter.unusedVariables false
namespace Go.Proofs.YtmefipdgohflmaaDoor
open Go.RowKit Q
section
variable {P : Program} {C : Ctx} {w : World} {η : Nat → Value} {F : Nat → Prop} {sl : Sl} {hp : Hp} {N : Nat} {a : Act} {o : Oper} {ev : Operand → SV} {t : TypeId} {y : Ty}
/-- Some rows of a slice with elements of one cell, written anew. -/
theorem copySl_core (h : HRep C w η F hp) {b : Nat} {e : TypeId} {rows rs : List (List TV)} (hb : hp b = some (.sl e 1 false rows)) {off : Nat} {us : List Value} (hl : us.length = rs.length) (h1 : ∀ r ∈ rs, r.length = 1)
    (hus : ∀ (j : Nat) (r : List TV) (x : TV) (u : Value), rs[j]? = some r → r[0]? = some x → us[j]? = some u → Tr w F x u) (hle : off + rs.length ≤ rows.length) {g cap : Nat} {cur : Array Value} (e1 : η b = .slice (some ⟨g, 0, none⟩) rows.length cap) (e3 : w.heap[g]? = some (.cells cur e (0, 0)))
    (e4 : rows.length ≤ cap) (e5 : cap ≤ maxLen) (e6 : cur.size = cap * 1) :
    HRep C (w.setRow g (putAt cur.toList off us).toArray) η F (hpSet hp b (some (.sl e 1 false (putAt rows off rs)))) ∧ (∀ g', F g' → (w.setRow g (putAt cur.toList off us).toArray).heap[g']? = w.heap[g']?) := by
  obtain ⟨cells, h2, h3, h4⟩ := h.blocks b _ hb
  have hgF : ¬ F g := h.liveF b _ g hb rfl (by rw [e1]; exact rfl)
  have hFc : ∀ g', F g' → (w.setRow g (putAt cur.toList off us).toArray).heap[g']? = w.heap[g']? := fun g' hg' => setRow_other w g g' _ (by rintro rfl; exact hgF hg')
  refine ⟨?_, hFc⟩
  have hcl : cells.length = rows.length * 1 := h2.1
  have e7 : cur.toList.take (rows.length * 1) = cells := by
    rcases h2.2 with ⟨q1, q2⟩ | ⟨g', cap', cur', q1, q2, q3, q4, q5, q6, q7⟩
    · rw [q1] at e1; cases e1
    · rw [e1] at q1
      injection q1 with q1 _ _
      injection q1 with q1
      injection q1 with q1
      subst q1
      rw [e3] at q3
      injection q3 with q3
      injection q3 with q3
      subst q3
      exact q7
  have hcurl : cur.toList.length = cap * 1 := by simpa using e6
  have hA : off + us.length ≤ cur.toList.length := by omega
  have hB : off + us.length ≤ cells.length := by omega
  have hR : off + rs.length ≤ rows.length := hle
  have hkeepTr : ∀ {x : TV} {u : Value}, Tr w F x u → Tr (w.setRow g (putAt cur.toList off us).toArray) F x u := fun hx => hx.keep (fun _ h => h) fun g hg => hFc g hg
  refine h.write (g0 := g) hb rfl rfl (by rw [e1]; rfl) (.inr (.inl ⟨e, 1, false, rows, false, _, hb, hpSet_same _ _ _, rfl⟩)) (fun _ _ hk => by cases hk) (fun g' hg' => setRow_other w g g' _ hg') (by simp) rfl rfl rfl ?_
  refine ⟨putAt cells off us, ⟨?_, .inr ⟨g, cap, (putAt cur.toList off us).toArray, ?_, Nat.zero_le _, setRow_heap w g cur _ e _ e3, ?_, e5, ?_, ?_⟩⟩, ?_, ?_⟩
  · rw [putAt_length hB, putAt_length hR]; exact hcl
  · rw [e1, putAt_length hR]
  · rw [putAt_length hR]; exact e4
  · rw [List.size_toArray, putAt_length hA]; exact hcurl
  · rw [putAt_length hR]
    apply List.ext_getElem?
    intro j
    rw [List.getElem?_take, putAt_getElem? hA, putAt_getElem? hB, ← e7]
    by_cases hj : j < rows.length * 1
    · rw [if_pos hj, List.getElem?_take, if_pos hj]
    · rw [if_neg hj, if_neg (by omega), List.getElem?_take, if_neg hj]
  · intro r hr
    unfold putAt at hr
    rcases List.mem_append.1 hr with hr | hr
    · rcases List.mem_append.1 hr with hr | hr
      · exact h3 r (List.mem_of_mem_take hr)
      · exact h1 r hr
    · exact h3 r (List.mem_of_mem_drop hr)
  · intro i j r x hi hj
    rw [putAt_getElem? hR] at hi
    have hj0 : j = 0 := by
      have hr1 : r.length = 1 := by
        split at hi
        · exact h1 r (List.mem_of_getElem? hi)
        · exact h3 r (List.mem_of_getElem? hi)
      have := (List.getElem?_eq_some_iff.1 hj).1
      omega
    subst hj0
    rw [putAt_getElem? hB, Nat.mul_one, Nat.add_zero]
    split at hi
    · rename_i hii
      have hil : i - off < us.length := by omega
      rw [if_pos (by omega)]
      exact ⟨us[i - off], List.getElem?_eq_getElem hil, hkeepTr (hus (i - off) r x _ hi hj (List.getElem?_eq_getElem hil))⟩
    · rename_i hii
      rw [if_neg (by omega)]
      obtain ⟨u, h5, h6⟩ := h4 i 0 r x hi hj
      rw [Nat.mul_one, Nat.add_zero] at h5
      exact ⟨u, h5, hkeepTr h6⟩
theorem HRep.slAt (h : HRep C w η F hp) {b : Nat} {e : TypeId} {sz : Nat} {f : Bool} {rows : List (List TV)} (hb : hp b = some (.sl e sz f rows)) (h0 : 0 < rows.length) :
    ∃ (g cap : Nat) (cur : Array Value), η b = .slice (some ⟨g, 0, none⟩) rows.length cap ∧ w.heap[g]? = some (.cells cur e (0, 0)) ∧ rows.length ≤ cap ∧ cap ≤ maxLen ∧ cur.size = cap * sz ∧
      ∀ (i j : Nat) (row : List TV) (x : TV), rows[i]? = some row → row[j]? = some x → ∃ u, w.cell? ⟨g, i * sz + j, none⟩ = some u ∧ Tr w F x u := by
  obtain ⟨cells, h2, h3, h4⟩ := h.blocks b _ hb
  rcases h2.2 with ⟨q1, q2⟩ | ⟨g', cap', cur', q1, q2, q3, q4, q5, q6, q7⟩
  · omega
  · refine ⟨g', cap', cur', q1, q3, q4, q5, q6, fun i j row x hi hj => ?_⟩
    obtain ⟨u, h5, h6⟩ := h4 i j row x hi hj
    refine ⟨u, ?_, h6⟩
    rw [← q7, List.getElem?_take] at h5
    split at h5
    · rw [cell_of_row w g' (i * sz + j) cur' e _ q3, ← Array.getElem?_toList]; exact h5
    · cases h5
/-- A part of a slice of one's own. -/
theorem OStep.viewM {x : Operand} {lo hi : Option Operand} {b : Nat} {rows : List (List TV)} {e : TypeId} {ye : Ty} {l r : Nat} (ho : o.op = .slice t x lo hi none) (hx : ev x = .w (.c (.mref b))) (hy : TyFits P t y) (hs : y.shp = .slice e) (hye : TyFits P e ye) (hb : Bnd ev lo hi rows.length l r) (h0 : l < rows.length) :
    OStep P o ev ⟨[(b, .sl e ye.size false rows)], [], [], .w (.c (.view b l r))⟩ :=
  .pure fun C w η F sl hp N a hR hev hnd => by
    have hbb : hp b = some (.sl e ye.size false rows) := hnd (b, .sl e ye.size false rows) (by simp)
    have h1 := hR.mrefv ((hev x (by simp [ho, Op.operands])).trans hx) hbb
    obtain ⟨g, cap, cur, e1, _, e4, _⟩ := hR.heap.slAt hbb (by omega)
    have hbd := run_bounds (P := P) (c := cap) hR hb e4 (fun z hz => hev z (by subst hz; simp [ho, Op.operands])) (fun z hz => hev z (by subst hz; cases lo <;> simp [ho, Op.operands]))
    have hrun := run_sliceT (w := w) hy hs hye (some ⟨g, 0, none⟩) rows.length cap _ _ _ hbd
    have hsl : sliced (some ⟨g, 0, none⟩) l r cap ye.size = .slice (some ⟨g, l * ye.size, none⟩) (r - l) (cap - l) := by
      unfold sliced
      rw [if_neg (by omega), Option.map_some, addr_add, Nat.zero_add]
    rw [hsl] at hrun
    refine ⟨.slice (some ⟨g, l * ye.size, none⟩) (r - l) (cap - l), ?_, ?_⟩
    · unfold execOp; rw [ho]
      simp only [h1, e1, Option.map_none, Sem.run_bind, hrun, Result.andThen_ok]
      rfl
    · simp only [SRep, WRep, CRep, hbb]
      exact ⟨g, rows.length, cap, e1, rfl⟩
theorem copyExec {x z : Operand} {T T' : TypeId} (ho : o.op = .call { callee := .builtin .copy, args := #[x, z], argTypes := #[T, T'] }) {v u r : Value} {w' : World} (e1 : a.eval x = v) (e2 : a.eval z = u) (h : (Builtin.copy_ #[T, T'] o.type #[v, u]).run P w = .ok r w') : (execOp a.eval o).run P w = .ok (.value r) w' := by
  unfold execOp
  simp [ho, resolve, invoke, builtin, e1, e2, h, Result.andThen]
/-- A copy from one part to another one of the same slice. -/
theorem OStep.copyV {x z : Operand} {T T' : TypeId} {b l1 r1 l2 r2 n : Nat} {rows : List (List TV)} {e : TypeId} {ye : Ty} (ho : o.op = .call { callee := .builtin .copy, args := #[x, z], argTypes := #[T, T'] }) (hx : ev x = .w (.c (.view b l1 r1))) (hz : ev z = .w (.c (.view b l2 r2))) (hy : TyFits P T y) (hs : y.shp = .slice e) (hye : TyFits P e ye) (h1 : ye.size = 1)
    (hn : n = Nat.min (r2 - l2) (r1 - l1)) (hr1 : l1 + n ≤ rows.length) (hr2 : l2 + n ≤ rows.length) (h0 : 0 < rows.length) (hrow : ∀ row ∈ rows, row.length = 1) :
    OStep P o ev ⟨[(b, .sl e 1 false rows)], [], [(b, some (.sl e 1 false (putAt rows l1 ((rows.drop l2).take n))))], iS .i64 (n : Int)⟩ :=
  .heap fun C w η F sl hp N a hR hev hnd hnew => by
    have hb : hp b = some (.sl e 1 false rows) := hnd (b, _) (by simp)
    obtain ⟨g, cap, cur, e1, e3, e4, e5, e6, hcell⟩ := hR.heap.slAt hb h0
    have hv1 := hR.eval x
    rw [hev x (by simp [ho, Op.operands, Call.operands]), hx] at hv1
    simp only [SRep, WRep, CRep, hb] at hv1
    obtain ⟨g1, n1, c1, q1, q2⟩ := hv1
    have hv2 := hR.eval z
    rw [hev z (by simp [ho, Op.operands, Call.operands]), hz] at hv2
    simp only [SRep, WRep, CRep, hb] at hv2
    obtain ⟨g2, n2, c2, q3, q4⟩ := hv2
    rw [e1] at q1 q3
    injection q1 with q1 _ _
    injection q1 with q1
    injection q1 with q1
    injection q3 with q3 _ _
    injection q3 with q3
    injection q3 with q3
    subst q1; subst q3
    rw [Nat.mul_one] at q2 q4
    have hrl : ((rows.drop l2).take n).length = n := by rw [List.length_take, List.length_drop]; omega
    have hget : ∀ j r, ((rows.drop l2).take n)[j]? = some r → rows[l2 + j]? = some r ∧ j < n := fun j r hj => by
      rw [List.getElem?_take] at hj
      split at hj
      · rename_i hlt; rw [List.getElem?_drop] at hj; exact ⟨hj, hlt⟩
      · cases hj
    have hcur : ∀ k, w.cell? ⟨g, k, none⟩ = cur.toList[k]? := fun k => by rw [cell_of_row w g k cur e _ e3, ← Array.getElem?_toList]
    have hul : ((cur.toList.drop l2).take n).length = n := by rw [List.length_take, List.length_drop]; simp; omega
    have hug : ∀ j v, ((cur.toList.drop l2).take n)[j]? = some v → cur.toList[l2 + j]? = some v := fun j v hj => by
      rw [List.getElem?_take] at hj
      split at hj
      · rw [List.getElem?_drop] at hj; exact hj
      · cases hj
    have htr : ∀ (j : Nat) (r : List TV) (x : TV) (u : Value), ((rows.drop l2).take n)[j]? = some r → r[0]? = some x → ((cur.toList.drop l2).take n)[j]? = some u → Tr w F x u := fun j r x u hr hx hu => by
      obtain ⟨hr', _⟩ := hget j r hr
      obtain ⟨u', h5, h6⟩ := hcell (l2 + j) 0 r x hr' hx
      rw [Nat.mul_one, Nat.add_zero, hcur, hug j u hu] at h5
      injection h5 with h5
      subst h5; exact h6
    have hone : ∀ v ∈ (cur.toList.drop l2).take n, v.oneCell' = true := fun v hv => by
      obtain ⟨j, hj⟩ := List.getElem?_of_mem hv
      have hjn : j < n := by have := (List.getElem?_eq_some_iff.1 hj).1; omega
      have hjr : j < ((rows.drop l2).take n).length := by omega
      have hr := List.getElem?_eq_getElem hjr
      have hm := hrow _ (List.mem_of_getElem? (hget j _ hr).1)
      exact (htr j _ _ v hr (List.getElem?_eq_getElem (i := 0) (by omega)) hj).oneCell
    obtain ⟨i, hi1, hi2, _⟩ := hye.info
    have hrun := run_copy_row (P := P) w T T' o.type e g l1 (r1 - l1) (c1 - l1) ⟨g, l2, none⟩ (r2 - l2) (c2 - l2) cur e ((cur.toList.drop l2).take n) (hy.slice hs) (by rw [hi1]; simp [hi2, h1]) e3 (by rw [hul]; exact hn)
      (fun j v hj => by rw [addr_add, hcur]; exact hug j v hj) (by rw [hul]; omega) hone
    have hex := copyExec ho q2 q4 hrun
    rw [hul] at hex
    obtain ⟨s1, s2⟩ := copySl_core hR.heap (rs := (rows.drop l2).take n) (us := (cur.toList.drop l2).take n) hb (off := l1) (by rw [hul, hrl]) (fun r hr => hrow r (List.mem_of_mem_drop (List.mem_of_mem_take hr))) htr (by rw [hrl]; omega) e1 e3 e4 e5 e6
    have hput : cur.toList.take l1 ++ (cur.toList.drop l2).take n ++ cur.toList.drop (l1 + n) = putAt cur.toList l1 ((cur.toList.drop l2).take n) := by unfold putAt; rw [hul]
    rw [hput] at hex
    refine ⟨_, _, η, F, .inl hex, s1, fun _ h => h, s2, fun c => .inr ?_, .int _ _⟩
    by_cases hc : c = b
    · subst hc; exact .inr (.inl ⟨e, 1, false, rows, false, _, hb, hpSet_same _ _ _, rfl⟩)
    · exact Stays.of_same (hpSet_other hc) rfl
/-- A copy of a slice that does not change into one of one's own. -/
theorem OStep.copyMT {x z : Operand} {T T' : TypeId} {b n : Nat} {rows src : List (List TV)} {e : TypeId} {ye : Ty} (ho : o.op = .call { callee := .builtin .copy, args := #[x, z], argTypes := #[T, T'] }) (hx : ev x = .w (.c (.mref b))) (hz : ev z = tS src) (hy : TyFits P T y) (hs : y.shp = .slice e) (hye : TyFits P e ye) (h1 : ye.size = 1)
    (hn : n = Nat.min src.length rows.length) (hrow : ∀ row ∈ src, row.length = 1) :
    OStep P o ev ⟨[(b, .sl e 1 false rows)], [], [(b, some (.sl e 1 false (putAt rows 0 (src.take n))))], iS .i64 (n : Int)⟩ :=
  .heap fun C w η F sl hp N a hR hev hnd hnew => by
    have hb : hp b = some (.sl e 1 false rows) := hnd (b, _) (by simp)
    have hv1 := hR.mrefv ((hev x (by simp [ho, Op.operands, Call.operands])).trans hx) hb
    have hv2 := hR.treev ((hev z (by simp [ho, Op.operands, Call.operands])).trans hz)
    have hst : ∀ k' : Blk, (∃ rows', k' = .sl e 1 false rows') → ∀ c, Stays η η hp (hpSet hp b (some k')) c := fun k' hk' c => by
      obtain ⟨rows', rfl⟩ := hk'
      by_cases hc : c = b
      · subst hc; exact .inr (.inl ⟨e, 1, false, rows, false, _, hb, hpSet_same _ _ _, rfl⟩)
      · exact Stays.of_same (hpSet_other hc) rfl
    obtain ⟨i, hi1, hi2, _⟩ := hye.info
    by_cases h0 : n = 0
    · have hsh : ∃ a0 c0 a1 c1, η b = .slice a0 rows.length c0 ∧ a.eval z = .slice a1 src.length c1 := by
        obtain ⟨cells, h2, _⟩ := hR.heap.blocks b _ hb
        have q2 : ∃ a1 c1, a.eval z = .slice a1 src.length c1 := by
          generalize a.eval z = u at hv2
          cases hv2 with
          | empty a c hm => exact ⟨a, c, rfl⟩
          | tree _ g o' sz' c cv hc hmx hsz' hF hcell htr => exact ⟨_, c, rfl⟩
        obtain ⟨a1, c1, q2⟩ := q2
        rcases h2.2 with ⟨q1, q3⟩ | ⟨g', cap', cur', q1, _⟩
        · exact ⟨none, 0, a1, c1, by rw [q1, q3], q2⟩
        · exact ⟨_, cap', a1, c1, q1, q2⟩
      obtain ⟨a0, c0, a1, c1, q1, q2⟩ := hsh
      have hrun := run_copy_none (P := P) w T T' o.type e a0 a1 rows.length c0 src.length c1 (hy.slice hs) (by rw [hi1]; simp [hi2, h1]) (by rw [← hn]; exact h0)
      have hex := copyExec ho (hv1.trans q1) q2 hrun
      have hput : putAt rows 0 (src.take n) = rows := by rw [h0]; simp [putAt]
      have hid : hpUpd hp [(b, some (.sl e 1 false (putAt rows 0 (src.take n))))] = hp := by
        rw [hput]
        funext c
        show hpSet hp b _ c = hp c
        by_cases hc : c = b
        · subst hc; rw [hpSet_same, hb]
        · exact hpSet_other hc
      refine ⟨_, w, η, F, .inl hex, by rw [hid]; exact hR.heap, fun _ h => h, fun _ _ => rfl, fun c => .inr (by rw [hid]; exact Stays.of_same rfl rfl), ?_⟩
      rw [h0]; exact .int _ _
    · obtain ⟨g, cap, cur, e1, e3, e4, e5, e6, hcell⟩ := hR.heap.slAt hb (by have := Nat.min_le_right src.length rows.length; have e : Nat.min src.length rows.length = min src.length rows.length := rfl; omega)
      have hns : n ≤ src.length := by rw [hn]; exact Nat.min_le_left _ _
      have hnr : n ≤ rows.length := by rw [hn]; exact Nat.min_le_right _ _
      generalize hu : a.eval z = u at hv2
      cases hv2 with
      | empty a0 c0 hm => simp at hns; omega
      | tree _ gs os sz' cs cv hc hmx hsz' hF hcl htr =>
        have hsz1 : sz' = 1 := by
          have hm : src[0]'(by omega) ∈ src := List.getElem_mem _
          rw [← hsz' _ hm, hrow _ hm]
        subst hsz1
        have hget : ∀ j r, (src.take n)[j]? = some r → src[j]? = some r := fun j r hj => by
          rw [List.getElem?_take] at hj
          split at hj
          · exact hj
          · cases hj
        have hul : ((List.range n).map fun j => cv j 0).length = n := by simp
        have hug : ∀ j v, ((List.range n).map fun j => cv j 0)[j]? = some v → v = cv j 0 ∧ j < n := fun j v hj => by
          rw [List.getElem?_map, Option.map_eq_some_iff] at hj
          obtain ⟨k, hk, rfl⟩ := hj
          have hlt := (List.getElem?_eq_some_iff.1 hk).1
          rw [List.length_range] at hlt
          rw [List.getElem?_range hlt] at hk
          injection hk with hk
          subst hk; exact ⟨rfl, hlt⟩
        have hx0 : ∀ j, j < n → ∃ r x, src[j]? = some r ∧ r[0]? = some x := fun j hj => by
          have hjl : j < src.length := by omega
          have hr := hrow _ (List.getElem_mem hjl)
          exact ⟨src[j], (src[j])[0]'(by omega), List.getElem?_eq_getElem hjl, List.getElem?_eq_getElem (by omega)⟩
        have hrun := run_copy_row (P := P) w T T' o.type e g 0 rows.length cap ⟨gs, os, none⟩ src.length cs cur e ((List.range n).map fun j => cv j 0) (hy.slice hs) (by rw [hi1]; simp [hi2, h1]) e3 (by rw [hul]; exact hn)
          (fun j v hj => by
            obtain ⟨rfl, hjn⟩ := hug j v hj
            obtain ⟨r, x, q1, q2⟩ := hx0 j hjn
            have := hcl j 0 r x q1 q2
            rw [Nat.mul_one, Nat.add_zero] at this
            rw [addr_add]; exact this) (by rw [hul]; omega)
          (fun v hv => by
            obtain ⟨j, hj⟩ := List.getElem?_of_mem hv
            obtain ⟨rfl, hjn⟩ := hug j v hj
            obtain ⟨r, x, q1, q2⟩ := hx0 j hjn
            exact (htr j 0 r x q1 q2).oneCell)
        have hex := copyExec ho (hv1.trans e1) hu hrun
        rw [hul] at hex
        obtain ⟨s1, s2⟩ := copySl_core hR.heap (rs := src.take n) (us := (List.range n).map fun j => cv j 0) hb (off := 0) (by rw [hul, List.length_take]; omega) (fun r hr => hrow r (List.mem_of_mem_take hr))
          (fun j r x u hr hx hj => by
            obtain ⟨rfl, hjn⟩ := hug j u hj
            exact htr j 0 r x (hget j r hr) hx) (by rw [List.length_take]; omega) e1 e3 e4 e5 e6
        have hput : cur.toList.take 0 ++ (List.range n).map (fun j => cv j 0) ++ cur.toList.drop (0 + n) = putAt cur.toList 0 ((List.range n).map fun j => cv j 0) := by unfold putAt; rw [hul]
        rw [hput] at hex
        exact ⟨_, _, η, F, .inl hex, s1, fun _ h => h, s2, fun c => .inr (hst _ ⟨_, rfl⟩ c), .int _ _⟩
end
section
variable {N k : Nat} {β γ : Type} {q : β → Po} {s : St} {all r : List Oper} {τ : List (Option Eff)} {m m1 m2 : M β} {d : Option Tmp} {ty : TypeId} {pos : String} {aft : Array Edge} {x y z : Operand} {T T' e : TypeId} {kd : IntKind} {yT ye : Ty}
theorem putAt_map {α : Type} (g : α → List TV) (l vs : List α) (o : Int) : putAt (l.map g) o.toNat (vs.map g) = (putL l o vs).map g := by
  unfold putAt putL; simp [List.map_take, List.map_drop]
theorem X.view (lo hi : Option Int) {xl xh : Option Operand} {α : Type} {g : α → List TV} {l : List α} {b sz : Nat} (h : 0 ≤ loI lo ∧ loI lo ≤ hiI l.length hi ∧ hiI l.length hi ≤ (l.length : Int) ∧ loI lo < (l.length : Int) → TS N k all q r (s.put d (.w (.c (.view b (loI lo).toNat (hiI l.length hi).toNat)))) (some ⟨[(b, .sl e ye.size false (l.map g))], [], [], .w (.c (.view b (loI lo).toNat (hiI l.length hi).toNat))⟩ :: τ) m) (hxl : optI s xl lo) (hxh : optI s xh hi) (hx : s.ev x = .w (.c (.mref b)) := by exact rfl) (hbk : lookH s.heap b = some (.sl e sz false (l.map g)) := by exact rfl) (hT : tys.get T = some yT := by exact rfl) (hs : yT.shp = .slice e := by exact rfl) (he : tys.get e = some ye := by exact rfl) (hsz : sz = ye.size := by exact rfl) (hd : dstB N d = true := by exact rfl) : TS N k all q (⟨d, .slice T x xl xh none, ty, pos, aft, none⟩ :: r) s τ (M.chk (0 ≤ loI lo ∧ loI lo ≤ hiI l.length hi ∧ hiI l.length hi ≤ (l.length : Int) ∧ loI lo < (l.length : Int)) m) := by
  subst hsz
  refine X.chk fun hc => ?_
  have h2 : OStep Tryd.prog ⟨d, .slice T x xl xh none, ty, pos, aft, none⟩ s.ev ⟨[(b, .sl e ye.size false (l.map g))], [], [], .w (.c (.view b (loI lo).toNat (hiI l.length hi).toNat))⟩ := OStep.viewM (P := Tryd.prog) (rows := l.map g) rfl hx (fits hT) hs (fits he) ?_ (by rw [List.length_map]; omega)
  · exact X.op h2 ⟨hbk, trivial⟩ rfl hd (h hc)
  rw [List.length_map]
  refine ⟨?_, ?_, ?_, ?_⟩
  · cases lo with
    | none => cases xl with
      | none => rfl
      | some _ => exact hxl.elim
    | some i => cases xl with
      | none => exact hxl.elim
      | some o => obtain ⟨kd, hk⟩ := hxl; exact ⟨kd, by rw [hk]; simp only [loI] at hc ⊢; rw [Int.toNat_of_nonneg hc.1]⟩
  · cases hi with
    | none => cases xh with
      | none => simp [hiI]
      | some _ => exact hxh.elim
    | some i => cases xh with
      | none => exact hxh.elim
      | some o => obtain ⟨kd, hk⟩ := hxh; exact ⟨kd, by rw [hk]; simp only [hiI] at hc ⊢; rw [Int.toNat_of_nonneg (by omega)]⟩
  · omega
  · omega
theorem X.copyV {α : Type} {g : α → List TV} {l : List α} {b l1 r1 l2 r2 : Nat} (h : TS N k all q r (s.eff d ⟨[(b, .sl e 1 false (l.map g))], [], [(b, some (.sl e 1 false ((putL l l1 ((l.drop l2).take (Min.min (r2 - l2) (r1 - l1)))).map g)))], iS .i64 ((Min.min (r2 - l2) (r1 - l1) : Nat) : Int)⟩) (some ⟨[(b, .sl e 1 false (l.map g))], [], [(b, some (.sl e 1 false ((putL l l1 ((l.drop l2).take (Min.min (r2 - l2) (r1 - l1)))).map g)))], iS .i64 ((Min.min (r2 - l2) (r1 - l1) : Nat) : Int)⟩ :: τ) m)
    (hx : s.ev x = .w (.c (.view b l1 r1)) := by exact rfl) (hz : s.ev z = .w (.c (.view b l2 r2)) := by exact rfl) (hbk : lookH s.heap b = some (.sl e 1 false (l.map g)) := by exact rfl) (hT : tys.get T = some yT := by exact rfl) (hs : yT.shp = .slice e := by exact rfl) (he : tys.get e = some ye := by exact rfl) (h1 : ye.size = 1 := by exact rfl) (hg : ∀ v, (g v).length = 1 := by exact fun _ => rfl) (hd : dstB N d = true := by exact rfl) :
    TS N k all q (⟨d, .call { callee := .builtin .copy, args := #[x, z], argTypes := #[T, T'] }, ty, pos, aft, none⟩ :: r) s τ (M.chk (l1 + Min.min (r2 - l2) (r1 - l1) ≤ l.length ∧ l2 + Min.min (r2 - l2) (r1 - l1) ≤ l.length ∧ 0 < l.length) m) := by
  refine X.chk fun hc => ?_
  have e1 : putAt (l.map g) l1 (((l.map g).drop l2).take (Nat.min (r2 - l2) (r1 - l1))) = (putL l l1 ((l.drop l2).take (Min.min (r2 - l2) (r1 - l1)))).map g := by
    rw [← List.map_drop, ← List.map_take, ← putAt_map]; rfl
  have h2 : OStep Tryd.prog ⟨d, .call { callee := .builtin .copy, args := #[x, z], argTypes := #[T, T'] }, ty, pos, aft, none⟩ s.ev ⟨[(b, .sl e 1 false (l.map g))], [], [(b, some (.sl e 1 false ((putL l l1 ((l.drop l2).take (Min.min (r2 - l2) (r1 - l1)))).map g)))], iS .i64 ((Min.min (r2 - l2) (r1 - l1) : Nat) : Int)⟩ := by
    rw [← e1]
    exact OStep.copyV (P := Tryd.prog) (o := ⟨d, .call { callee := .builtin .copy, args := #[x, z], argTypes := #[T, T'] }, ty, pos, aft, none⟩) (rows := l.map g) rfl hx hz (fits hT) hs (fits he) h1 rfl (by rw [List.length_map]; exact hc.1) (by rw [List.length_map]; exact hc.2.1) (by rw [List.length_map]; exact hc.2.2) (fun row hrow => by obtain ⟨v, _, rfl⟩ := List.mem_map.1 hrow; exact hg v)
  exact X.op h2 ⟨hbk, trivial⟩ rfl hd h
theorem X.copyMT {α : Type} {g : α → List TV} {l src : List α} {b : Nat} (h : TS N k all q r (s.eff d ⟨[(b, .sl e 1 false (l.map g))], [], [(b, some (.sl e 1 false ((putL l 0 (src.take (Min.min src.length l.length))).map g)))], iS .i64 ((Min.min src.length l.length : Nat) : Int)⟩) (some ⟨[(b, .sl e 1 false (l.map g))], [], [(b, some (.sl e 1 false ((putL l 0 (src.take (Min.min src.length l.length))).map g)))], iS .i64 ((Min.min src.length l.length : Nat) : Int)⟩ :: τ) m)
    (hx : s.ev x = .w (.c (.mref b)) := by exact rfl) (hz : s.ev z = tS (src.map g) := by exact rfl) (hbk : lookH s.heap b = some (.sl e 1 false (l.map g)) := by exact rfl) (hT : tys.get T = some yT := by exact rfl) (hs : yT.shp = .slice e := by exact rfl) (he : tys.get e = some ye := by exact rfl) (h1 : ye.size = 1 := by exact rfl) (hg : ∀ v, (g v).length = 1 := by exact fun _ => rfl) (hd : dstB N d = true := by exact rfl) :
    TS N k all q (⟨d, .call { callee := .builtin .copy, args := #[x, z], argTypes := #[T, T'] }, ty, pos, aft, none⟩ :: r) s τ m := by
  have e1 : putAt (l.map g) 0 ((src.map g).take (Min.min src.length l.length)) = (putL l 0 (src.take (Min.min src.length l.length))).map g := by
    rw [← List.map_take, ← putAt_map]; rfl
  have h2 : OStep Tryd.prog ⟨d, .call { callee := .builtin .copy, args := #[x, z], argTypes := #[T, T'] }, ty, pos, aft, none⟩ s.ev ⟨[(b, .sl e 1 false (l.map g))], [], [(b, some (.sl e 1 false ((putL l 0 (src.take (Min.min src.length l.length))).map g)))], iS .i64 ((Min.min src.length l.length : Nat) : Int)⟩ := by
    rw [← e1]
    exact OStep.copyMT (P := Tryd.prog) (o := ⟨d, .call { callee := .builtin .copy, args := #[x, z], argTypes := #[T, T'] }, ty, pos, aft, none⟩) (rows := l.map g) (src := src.map g) rfl hx hz (fits hT) hs (fits he) h1 (by rw [List.length_map, List.length_map]) (fun row hrow => by obtain ⟨v, _, rfl⟩ := List.mem_map.1 hrow; exact hg v)
  exact X.op h2 ⟨hbk, trivial⟩ rfl hd h
theorem X.mulU {i j : Int} (h : 0 ≤ i * j ∧ i * j ≤ 18446744073709551615 → TS N k all q r (s.put d (iS .u64 (i * j))) (some ⟨[], [], [], iS .u64 (i * j)⟩ :: τ) m) (hx : s.ev x = iS .u64 i := by exact rfl) (hy : s.ev y = iS .u64 j := by exact rfl) (hd : dstB N d = true := by exact rfl) : TS N k all q (⟨d, .binOp .mul T x y T', ty, pos, aft, none⟩ :: r) s τ (M.chk (0 ≤ i * j ∧ i * j ≤ 18446744073709551615) m) := X.chk fun hi => X.up (h hi) fun _ hK =>
  G.op (OStep.int2 rfl hx hy (v := .int .u64 (i * j)) (fun w => by simp [binOp, Op.intArith, IntWalk.u64_in (i * j) hi]) (fun _ _ => .int _ _)) trivial rfl hd hK
end
end Go.Proofs.YtmefipdgohflmaaDoor
