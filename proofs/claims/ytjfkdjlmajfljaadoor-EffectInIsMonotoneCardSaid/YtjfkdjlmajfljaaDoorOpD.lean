/- One operation on abstract values: slices: stores, literals, make, slices of slices, len, append. -/
import Derived.Test.YtjfkdjlmajfljaaDoorOpC
namespace Go.Proofs.YtjfkdjlmajfljaaDoor
open Go.RowKit

section
variable {P : Program} {C : Ctx} {w : World} {η : Nat → Value} {F : Nat → Prop} {sl : Sl} {hp : Hp} {N : Nat} {a : Act} {o : Oper} {ev : Operand → SV} {t : TypeId} {y : Ty}

/-- A frozen block reads as a slice that never changes. -/
theorem BRep.tree {b : Nat} {e : TypeId} {sz : Nat} {f : Bool} {rows : List (List TV)} (h : BRep w F η hp b (.sl e sz f rows)) (hF : ∀ g, (η b).ownBlock = some g → F g) : Tr w F (.tree rows) (η b) := by
  obtain ⟨cells, h1, h2, h3⟩ := h
  rcases h1.2 with ⟨e1, e2⟩ | ⟨g, cap, cur, e1, e2, e3, e4, e5, e6, e7⟩
  · have : rows = [] := List.eq_nil_of_length_eq_zero e2
    subst this
    rw [e1]
    exact .empty none 0 (by simp [maxLen])
  · rw [e1]
    have hcl := h1.cells (g := g) (by rw [e1]; rfl)
    refine .tree rows g 0 sz cap (fun i j => cells.getD (i * sz + j) undef) e4 e5 h2 (hF g (by rw [e1]; rfl)) (fun i j row x hi hj => ?_) (fun i j row x hi hj => ?_)
    · obtain ⟨u, h5, h6⟩ := h3 i j row x hi hj
      have := hcl _ _ h5
      rw [addr_add] at this
      rw [this, List.getD_eq_getElem?_getD, h5]
      rfl
    · obtain ⟨u, h5, h6⟩ := h3 i j row x hi hj
      rw [List.getD_eq_getElem?_getD, h5]
      exact h6

theorem row_lt {rows : List (List TV)} {sz i : Nat} (h : i < rows.length) : i * sz + sz ≤ rows.length * sz := by
  calc i * sz + sz = (i + 1) * sz := by rw [Nat.add_mul, Nat.one_mul]
    _ ≤ _ := Nat.mul_le_mul_right _ h

theorem row_split {sz i i' j j' : Nat} (h : i * sz + j = i' * sz + j') (hj : j < sz) (hj' : j' < sz) : i = i' ∧ j = j' := by
  rcases Nat.lt_trichotomy i i' with hh | hh | hh
  · have : i * sz + sz ≤ i' * sz := by calc i * sz + sz = (i + 1) * sz := by rw [Nat.add_mul, Nat.one_mul]
                                          _ ≤ _ := Nat.mul_le_mul_right _ hh
    omega
  · subst hh; omega
  · have : i' * sz + sz ≤ i * sz := by calc i' * sz + sz = (i' + 1) * sz := by rw [Nat.add_mul, Nat.one_mul]
                                          _ ≤ _ := Nat.mul_le_mul_right _ hh
    omega

theorem putAt_length {α : Type} {l : List α} {o : Nat} {vs : List α} (h : o + vs.length ≤ l.length) : (putAt l o vs).length = l.length := by
  unfold putAt; simp; omega
theorem putAt_getElem? {α : Type} {l : List α} {o : Nat} {vs : List α} (h : o + vs.length ≤ l.length) (j : Nat) : (putAt l o vs)[j]? = if o ≤ j ∧ j < o + vs.length then vs[j - o]? else l[j]? := by
  unfold putAt
  have e1 : (l.take o).length = o := by simp; omega
  rw [List.append_assoc]
  rcases Nat.lt_or_ge j o with hj | hj
  · rw [List.getElem?_append_left (by omega), List.getElem?_take, if_pos hj, if_neg (by omega)]
  · rw [List.getElem?_append_right (by omega), e1]
    rcases Nat.lt_or_ge (j - o) vs.length with hk | hk
    · rw [List.getElem?_append_left hk, if_pos (by omega)]
    · rw [List.getElem?_append_right hk, List.getElem?_drop, if_neg (by omega)]
      congr 1
      omega

/-- A block of a slice with some cells of one row written. -/
theorem storeSl_core (h : HRep C w η F hp) {b : Nat} {e : TypeId} {sz : Nat} {rows : List (List TV)} (hb : hp b = some (.sl e sz false rows)) {i off : Nat} {row : List TV} (hi : rows[i]? = some row) {vs : List TV} {us : List Value} (hl : us.length = vs.length) (hus : ∀ (j : Nat) (x : TV) (u : Value), vs[j]? = some x → us[j]? = some u → Tr w F x u)
    (hy : TyFits P t y) (hsz : vs.length = y.size) (hle : off + vs.length ≤ row.length) {v : Value} (hv : v.cells.toList = us) {p : Value} (hp' : CRep w F η hp (.ptr b i off) p) :
    ∃ w', (Instr.storeAt t p v).run P w = .ok () w' ∧ HRep C w' η F (hpSet hp b (some (.sl e sz false (rows.set i (putAt row off vs))))) ∧ (∀ g, F g → w'.heap[g]? = w.heap[g]?) := by
  simp only [CRep, hb] at hp'
  obtain ⟨g, n, c, h1, rfl⟩ := hp'
  obtain ⟨cells, h2, h3, h4⟩ := h.blocks b _ hb
  have hrl : row.length = sz := h3 row (List.mem_of_getElem? hi)
  have hlt : i < rows.length := (List.getElem?_eq_some_iff.1 hi).1
  rcases h2.2 with ⟨e1, e2⟩ | ⟨g', cap, cur, e1, e2, e3, e4, e5, e6, e7⟩
  · omega
  · rw [h1] at e1
    injection e1 with e1 e8 e9
    injection e1 with e1
    injection e1 with e1
    subst e1
    have hbound := row_lt (sz := sz) hlt
    have hcl : cells.length = rows.length * sz := h2.1
    have hcap : rows.length * sz ≤ cap * sz := Nat.mul_le_mul_right _ e4
    have hone : ∀ u ∈ v.cells.toList, u.oneCell' = true := fun u hu => by
      rw [hv] at hu
      obtain ⟨j, hj⟩ := List.mem_iff_getElem?.1 hu
      have hjl : j < vs.length := by rw [← hl]; exact (List.getElem?_eq_some_iff.1 hj).1
      exact (hus j _ u (List.getElem?_eq_getElem hjl) hj).oneCell
    have hvl : v.cells.toList.length = vs.length := by rw [hv, hl]
    have hrun := run_storeAt (P := P) (w := w) hy (g := g) (p := i * sz + off) (v := v) (cur := cur.toList) (e := e) (by simpa using e3) (by rw [← hsz, ← hvl]; simp) (by rw [← hsz]; simp; omega) hone
    have hvz : v.cells.size = vs.length := by simpa using hvl
    have hcurl : cur.toList.length = cap * sz := by simpa using e6
    have hA : i * sz + off + v.cells.toList.length ≤ cur.toList.length := by omega
    have hB : i * sz + off + v.cells.toList.length ≤ cells.length := by omega
    have hgF : ¬ F g := h.liveF b _ g hb rfl (by rw [h1]; rfl)
    refine ⟨_, hrun, ?_, fun g' hg' => setRow_other w g g' _ (by rintro rfl; exact hgF hg')⟩
    have hFc : ∀ g', F g' → (w.setRow g (putAt cur.toList (i * sz + off) v.cells.toList).toArray).heap[g']? = w.heap[g']? := fun g' hg' => setRow_other w g g' _ (by rintro rfl; exact hgF hg')
    have hkeepTr : ∀ {x : TV} {u : Value}, Tr w F x u → Tr (w.setRow g (putAt cur.toList (i * sz + off) v.cells.toList).toArray) F x u := fun hx => hx.keep (fun _ h => h) fun g hg o v => cell_keep (hFc g hg) o v
    refine h.write (g0 := g) hb rfl rfl (by rw [h1]; rfl) (.inr (.inl ⟨e, sz, false, rows, false, _, hb, hpSet_same _ _ _, rfl⟩)) (fun _ _ hk => by cases hk) (fun g' hg' => setRow_other w g g' _ hg') (by simp) rfl rfl rfl ?_
    refine ⟨putAt cells (i * sz + off) v.cells.toList, ⟨?_, .inr ⟨g, cap, (putAt cur.toList (i * sz + off) v.cells.toList).toArray, ?_, Nat.zero_le _, setRow_heap w g cur _ e _ e3, ?_, e5, ?_, ?_⟩⟩, ?_, ?_⟩
    · rw [putAt_length hB, List.length_set]; exact h2.1
    · rw [h1, e8, e9, List.length_set]
    · rw [List.length_set]; exact e4
    · rw [List.size_toArray, putAt_length hA]; exact hcurl
    · rw [List.length_set]
      apply List.ext_getElem?
      intro j
      rw [List.getElem?_take, putAt_getElem? hA, putAt_getElem? hB, ← e7]
      by_cases hj : j < rows.length * sz
      · rw [if_pos hj, List.getElem?_take, if_pos hj]
      · rw [if_neg hj, if_neg (by omega), List.getElem?_take, if_neg hj]
    · intro r hr
      rcases List.mem_or_eq_of_mem_set hr with hr | rfl
      · exact h3 r hr
      · rw [putAt_length hle]; exact hrl
    · intro i' j r x hi' hj
      rw [List.getElem?_set] at hi'
      have hj2 : j < sz := by
        have := (List.getElem?_eq_some_iff.1 hj).1
        by_cases hii : i = i'
        · rw [if_pos hii, if_pos hlt] at hi'
          injection hi' with hi'
          subst hi'
          rw [putAt_length hle] at this; omega
        · rw [if_neg hii] at hi'
          rw [h3 r (List.mem_of_getElem? hi')] at this; exact this
      rw [putAt_getElem? hB]
      split at hi'
      · rename_i hii
        subst hii
        injection hi' with hi'
        subst hi'
        rw [putAt_getElem? hle] at hj
        split at hj
        · rename_i hjr
          rw [if_pos (by omega)]
          have hjl : j - off < us.length := by omega
          refine ⟨us[j - off], ?_, hkeepTr (hus (j - off) x _ hj (List.getElem?_eq_getElem hjl))⟩
          rw [hv, ← List.getElem?_eq_getElem hjl]
          congr 1
          omega
        · rename_i hjr
          rw [if_neg (by omega)]
          obtain ⟨u, h5, h6⟩ := h4 i j row x hi hj
          exact ⟨u, h5, hkeepTr h6⟩
      · rename_i hii
        have hne : ¬ (i * sz + off ≤ i' * sz + j ∧ i' * sz + j < i * sz + off + v.cells.toList.length) := by
          rintro ⟨q1, q2⟩
          have : i = i' := by
            have hk : i' * sz + j = i * sz + (i' * sz + j - i * sz) := by omega
            exact ((row_split hk hj2 (by omega)).1).symm
          exact hii this
        rw [if_neg hne]
        obtain ⟨u, h5, h6⟩ := h4 i' j r x hi' hj
        exact ⟨u, h5, hkeepTr h6⟩

def closedL : List AV → Option (List TV)
  | [] => some []
  | .v x :: r => (closedL r).map (x :: ·)
  | _ => none
def WV.closed : WV → Option (List TV)
  | .c (.v x) => some [x]
  | .c _ => none
  | .agg l => closedL l

theorem mapM_closed {l : List AV} {vs : List TV} (h : closedL l = some vs) : l = vs.map .v := by
  induction l generalizing vs with
  | nil => simp [closedL] at h; subst h; rfl
  | cons x l ih =>
    cases x with
    | v x =>
      simp only [closedL, Option.map_eq_some_iff] at h
      obtain ⟨vs', h1, rfl⟩ := h
      rw [List.map_cons, ← ih h1]
    | _ => simp [closedL] at h
theorem closed_cells {x : WV} {vs : List TV} (h : x.closed = some vs) : x.cells = vs.map .v ∧ x.ok = true := by
  cases x with
  | c a =>
    cases a <;> simp [WV.closed] at h
    subst h
    exact ⟨rfl, rfl⟩
  | agg l => exact ⟨mapM_closed h, rfl⟩

/-- A store of closed cells into a slice of one's own. -/
theorem OStep.storeSl {x z : Operand} {b i off : Nat} {e : TypeId} {sz : Nat} {rows : List (List TV)} {row : List TV} {v : WV} {vs : List TV} (ho : o.op = .store t x z) (hx : ev x = .w (.c (.ptr b i off))) (hz : ev z = .w v) (hy : TyFits P t y) (hv : v.closed = some vs) (hi : rows[i]? = some row) (hl : vs.length = y.size) (hle : off + vs.length ≤ row.length) :
    OStep P o ev ⟨[(b, .sl e sz false rows)], [], [(b, some (.sl e sz false (rows.set i (putAt row off vs))))], SV.any⟩ :=
  .heap fun C w η F sl hp N a hR hev hnd hnew => by
    have hb : hp b = some (.sl e sz false rows) := hnd (b, .sl e sz false rows) (by simp)
    have h1 := hR.eval x
    rw [hev x (by simp [ho, Op.operands]), hx] at h1
    have h4 := hR.eval z
    rw [hev z (by simp [ho, Op.operands]), hz] at h4
    obtain ⟨hc, hok⟩ := closed_cells hv
    have h5 := WRep.cells hR.heap h4 hok
    rw [hc] at h5
    obtain ⟨w', h6, h7, h8⟩ := storeSl_core hR.heap hb hi (us := (a.eval z).cells.toList) (by simpa using h5.1) (fun j q u hq hu => h5.2.2 j (.v q) u (by simp [hq]) hu) hy hl hle rfl h1
    refine ⟨undef, w', η, F, .inr ⟨?_, rfl⟩, h7, fun _ h => h, h8, fun c => .inr ?_, SRep.any _ _ _ _ _⟩
    · unfold execOp; rw [ho]
      simp only [Sem.run_bind, h6, Result.andThen_ok]
      rfl
    · by_cases hc : c = b
      · subst hc; exact .inr (.inl ⟨e, sz, false, rows, false, _, hb, hpSet_same _ _ _, rfl⟩)
      · exact Stays.of_same (hpSet_other hc) rfl

/-- A store of a slice of one's own into a slice of slices of one's own: the stored one is frozen. -/
theorem OStep.storeSlM {x z : Operand} {b i off : Nat} {e : TypeId} {sz : Nat} {rows : List (List TV)} {row : List TV} {k : Nat} {e' : TypeId} {sz' : Nat} {f' : Bool} {rows' : List (List TV)} (ho : o.op = .store t x z) (hx : ev x = .w (.c (.ptr b i off))) (hz : ev z = .w (.c (.mref k))) (hy : TyFits P t y) (hi : rows[i]? = some row) (hl : y.size = 1) (hle : off + 1 ≤ row.length) (hne : k ≠ b) :
    OStep P o ev ⟨[(b, .sl e sz false rows), (k, .sl e' sz' f' rows')], [], [(k, some (.sl e' sz' true rows')), (b, some (.sl e sz false (rows.set i (putAt row off [.tree rows']))))], SV.any⟩ :=
  .heap fun C w η F sl hp N a hR hev hnd hnew => by
    have hb : hp b = some (.sl e sz false rows) := hnd (b, .sl e sz false rows) (by simp)
    have hk : hp k = some (.sl e' sz' f' rows') := hnd (k, .sl e' sz' f' rows') (by simp)
    have h1 := hR.eval x
    rw [hev x (by simp [ho, Op.operands]), hx] at h1
    have h4 := hR.mrefv ((hev z (by simp [ho, Op.operands])).trans hz) hk
    have hfz := hR.heap.freeze hk
    have hb' : hpSet hp k (some (.sl e' sz' true rows')) b = some (.sl e sz false rows) := by rw [hpSet_other (Ne.symm hne)]; exact hb
    have hst1 : ∀ c, Stays η η hp (hpSet hp k (some (.sl e' sz' true rows'))) c := fun c => by
      by_cases hc : c = k
      · subst hc; exact .inr (.inl ⟨e', sz', f', rows', true, rows', hk, hpSet_same _ _ _, rfl⟩)
      · exact Stays.of_same (hpSet_other hc) rfl
    have h1' : CRep w (fun g => F g ∨ (η k).ownBlock = some g) η (hpSet hp k (some (.sl e' sz' true rows'))) (.ptr b i off) (a.eval x) := CRep.keep h1 (fun _ h => .inl h) (fun _ _ _ _ h => h) hR.heap.oneη fun c _ => hst1 c
    have hone := hR.heap.oneη k _ hk e' sz' f' rows' rfl
    have htr := (hfz.blocks k _ (hpSet_same _ _ _)).tree fun g hg => .inr hg
    obtain ⟨w', h6, h7, h8⟩ := storeSl_core hfz hb' hi (vs := [.tree rows']) (us := [a.eval z]) rfl (fun j q u hq hu => by
      cases j with
      | zero => simp at hq hu; subst hq; subst hu; rw [h4]; exact htr
      | succ j => simp at hq) hy (by simp [hl]) (by simpa using hle) (v := a.eval z) (by rw [h4]; exact cells_one hone) h1'
    refine ⟨undef, w', η, _, .inr ⟨?_, rfl⟩, h7, fun _ h => .inl h, fun g hg => h8 g (.inl hg), fun c => .inr ?_, SRep.any _ _ _ _ _⟩
    · unfold execOp; rw [ho]
      simp only [Sem.run_bind, h6, Result.andThen_ok]
      rfl
    · simp only [hpUpd]
      by_cases hc : c = b
      · subst hc; exact .inr (.inl ⟨e, sz, false, rows, false, _, hb, hpSet_same _ _ _, rfl⟩)
      · by_cases hc' : c = k
        · subst hc'; exact .inr (.inl ⟨e', sz', f', rows', true, rows', hk, by rw [hpSet_other hc, hpSet_same], rfl⟩)
        · exact Stays.of_same (by rw [hpSet_other hc, hpSet_other hc']) rfl

/-! ### len, min, max -/
theorem OStep.lenN {x : Operand} {T : TypeId} {e : TypeId} {y : Ty} (ho : o.op = .call { callee := .builtin .len, args := #[x], argTypes := #[T] }) (hx : ev x = nS) (hy : TyFits P T y) (hs : y.shp = .slice e) : OStep P o ev ⟨[], [], [], iS .i64 0⟩ :=
  .pure fun C w η F sl hp N a hR hev _ => by
    have h1 := hR.nilv ((hev x (by simp [ho, Op.operands, Call.operands])).trans hx)
    refine ⟨.int .i64 0, ?_, .int _ _⟩
    unfold execOp; rw [ho]
    simp [resolve, invoke, builtin, Builtin.len_, run_underlying (hy.slice hs), h1, goInt]
theorem OStep.lenT {x : Operand} {T : TypeId} {e : TypeId} {y : Ty} {rows : List (List TV)} (ho : o.op = .call { callee := .builtin .len, args := #[x], argTypes := #[T] }) (hx : ev x = tS rows) (hy : TyFits P T y) (hs : y.shp = .slice e) : OStep P o ev ⟨[], [], [], iS .i64 (rows.length : Int)⟩ :=
  .pure fun C w η F sl hp N a hR hev _ => by
    have h1 := hR.treev ((hev x (by simp [ho, Op.operands, Call.operands])).trans hx)
    refine ⟨.int .i64 rows.length, ?_, .int _ _⟩
    unfold execOp; rw [ho]
    generalize hu : a.eval x = u at h1
    cases h1 <;> simp [resolve, invoke, builtin, Builtin.len_, run_underlying (hy.slice hs), hu, goInt]
theorem OStep.lenM {x : Operand} {T : TypeId} {e : TypeId} {y : Ty} {b : Nat} {e' : TypeId} {sz : Nat} {f : Bool} {rows : List (List TV)} (ho : o.op = .call { callee := .builtin .len, args := #[x], argTypes := #[T] }) (hx : ev x = .w (.c (.mref b))) (hy : TyFits P T y) (hs : y.shp = .slice e) : OStep P o ev ⟨[(b, .sl e' sz f rows)], [], [], iS .i64 (rows.length : Int)⟩ :=
  .pure fun C w η F sl hp N a hR hev hnd => by
    have hb : hp b = some (.sl e' sz f rows) := hnd (b, .sl e' sz f rows) (by simp)
    have h1 := hR.mrefv ((hev x (by simp [ho, Op.operands, Call.operands])).trans hx) hb
    refine ⟨.int .i64 rows.length, ?_, .int _ _⟩
    obtain ⟨cells, h2, _⟩ := hR.heap.blocks b _ hb
    unfold execOp; rw [ho]
    rcases h2.2 with ⟨e1, e2⟩ | ⟨g, cap, cur, e1, _⟩
    · simp [resolve, invoke, builtin, Builtin.len_, run_underlying (hy.slice hs), h1, e1, e2, goInt]
    · simp [resolve, invoke, builtin, Builtin.len_, run_underlying (hy.slice hs), h1, e1, goInt]
theorem OStep.max2 {x z : Operand} {Ts : Array TypeId} {m n : Int} (ho : o.op = .call { callee := .builtin .max, args := #[x, z], argTypes := Ts }) (hx : ev x = iS .i64 m) (hz : ev z = iS .i64 n) : OStep P o ev ⟨[], [], [], iS .i64 (max m n)⟩ :=
  .pure fun C w η F sl hp N a hR hev _ => by
    have h1 := hR.int ((hev x (by simp [ho, Op.operands, Call.operands])).trans hx)
    have h2 := hR.int ((hev z (by simp [ho, Op.operands, Call.operands])).trans hz)
    refine ⟨.int .i64 (max m n), ?_, .int _ _⟩
    unfold execOp; rw [ho]
    have e : (if n > m then n else m) = max m n := by split <;> omega
    simp [resolve, invoke, builtin, Builtin.max_, Builtin.max2, h1, h2, e]
theorem OStep.min2 {x z : Operand} {Ts : Array TypeId} {m n : Int} (ho : o.op = .call { callee := .builtin .min, args := #[x, z], argTypes := Ts }) (hx : ev x = iS .i64 m) (hz : ev z = iS .i64 n) : OStep P o ev ⟨[], [], [], iS .i64 (min m n)⟩ :=
  .pure fun C w η F sl hp N a hR hev _ => by
    have h1 := hR.int ((hev x (by simp [ho, Op.operands, Call.operands])).trans hx)
    have h2 := hR.int ((hev z (by simp [ho, Op.operands, Call.operands])).trans hz)
    refine ⟨.int .i64 (min m n), ?_, .int _ _⟩
    unfold execOp; rw [ho]
    have e : (if n < m then n else m) = min m n := by split <;> omega
    simp [resolve, invoke, builtin, Builtin.min_, Builtin.min2, h1, h2, e]
end
#print axioms OStep.storeSlM
end Go.Proofs.YtjfkdjlmajfljaaDoor
