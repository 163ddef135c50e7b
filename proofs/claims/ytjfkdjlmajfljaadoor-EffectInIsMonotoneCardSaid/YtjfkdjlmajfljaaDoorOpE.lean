/- One operation on abstract values: append. -/
import Derived.Test.YtjfkdjlmajfljaaDoorOpD
namespace Go.Proofs.YtjfkdjlmajfljaaDoor
open Go.RowKit

/-- What append reads: a slice value and its cells. -/
def Src (w : World) (F : Nat → Prop) (u : Value) (sz : Nat) (rows : List (List TV)) (news : List Value) : Prop :=
  ∃ a c, u = .slice a rows.length c ∧ news.length = rows.length * sz ∧ (∀ row ∈ rows, row.length = sz) ∧
    (∀ (i j : Nat) (row : List TV) (x : TV), rows[i]? = some row → row[j]? = some x → ∃ v, news[i * sz + j]? = some v ∧ Tr w F x v) ∧
    (∀ v ∈ news, v.oneCell' = true) ∧ (rows = [] ∨ ∃ g o, a = some ⟨g, o, none⟩ ∧ ∀ (j : Nat) (v : Value), news[j]? = some v → w.cell? ⟨g, o + j, none⟩ = some v)

section
variable {P : Program} {C : Ctx} {w : World} {η : Nat → Value} {F : Nat → Prop} {sl : Sl} {hp : Hp} {N : Nat} {a : Act} {o : Oper} {ev : Operand → SV} {t : TypeId} {y : Ty}

theorem idx_div {sz k n : Nat} (hsz : 0 < sz) (h : k < n * sz) : k / sz < n ∧ k % sz < sz ∧ k / sz * sz + k % sz = k :=
  ⟨(Nat.div_lt_iff_lt_mul hsz).2 h, Nat.mod_lt _ hsz, by rw [Nat.mul_comm]; exact Nat.div_add_mod k sz⟩

theorem Src.ofTree {rows : List (List TV)} {u : Value} {sz : Nat} (h : Tr w F (.tree rows) u) (h0 : 0 < sz) (hsz : ∀ row ∈ rows, row.length = sz) : ∃ news, Src w F u sz rows news := by
  cases h with
  | empty a c hm => exact ⟨[], a, c, rfl, by simp, by simp, by simp, by simp, .inl rfl⟩
  | tree _ g o' sz' c cv hc hm hsz' hF hcell htr =>
    by_cases he : rows = []
    · subst he
      exact ⟨[], _, c, rfl, by simp, by simp, by simp, by simp, .inl rfl⟩
    · have hss : sz' = sz := by
        obtain ⟨r, hr⟩ := List.exists_mem_of_ne_nil _ he
        rw [← hsz r hr, hsz' r hr]
      subst hss
      have hnews : ∀ (k : Nat) (v : Value), ((List.range (rows.length * sz')).map fun k => cv (k / sz') (k % sz'))[k]? = some v → k < rows.length * sz' ∧ v = cv (k / sz') (k % sz') := fun k v hv => by
        rw [List.getElem?_map, Option.map_eq_some_iff] at hv
        obtain ⟨q, h1, h2⟩ := hv
        obtain ⟨h3, h4⟩ := List.getElem?_eq_some_iff.1 h1
        simp at h3 h4
        subst h4
        exact ⟨h3, h2.symm⟩
      refine ⟨(List.range (rows.length * sz')).map fun k => cv (k / sz') (k % sz'), _, c, rfl, by simp, hsz', fun i j row x hi hj => ?_, fun v hv => ?_, .inr ⟨g, o', rfl, fun k v hv => ?_⟩⟩
      · have hil : i < rows.length := (List.getElem?_eq_some_iff.1 hi).1
        have hjl : j < sz' := by rw [← hsz' row (List.mem_of_getElem? hi)]; exact (List.getElem?_eq_some_iff.1 hj).1
        have hb := row_lt (sz := sz') hil
        have e1 : (i * sz' + j) / sz' = i := by rw [Nat.mul_comm, Nat.mul_add_div h0, Nat.div_eq_of_lt hjl, Nat.add_zero]
        have e2 : (i * sz' + j) % sz' = j := by rw [Nat.mul_comm, Nat.mul_add_mod, Nat.mod_eq_of_lt hjl]
        refine ⟨cv i j, ?_, htr i j row x hi hj⟩
        rw [List.getElem?_map, List.getElem?_range (by omega), Option.map_some, e1, e2]
      · obtain ⟨k, hk⟩ := List.mem_iff_getElem?.1 hv
        obtain ⟨hkl, rfl⟩ := hnews k v hk
        obtain ⟨h1, h2, h3⟩ := idx_div h0 hkl
        have hr := List.getElem?_eq_getElem h1
        have hrl : k % sz' < (rows[k / sz']).length := by rw [hsz' _ (List.getElem_mem h1)]; exact h2
        exact (htr _ _ _ _ hr (List.getElem?_eq_getElem hrl)).oneCell
      · obtain ⟨hkl, rfl⟩ := hnews k v hv
        obtain ⟨h1, h2, h3⟩ := idx_div h0 hkl
        have hr := List.getElem?_eq_getElem h1
        have hrl : k % sz' < (rows[k / sz']).length := by rw [hsz' _ (List.getElem_mem h1)]; exact h2
        have := hcell _ _ _ _ hr (List.getElem?_eq_getElem hrl)
        rw [h3] at this
        exact this

theorem Src.ofBlk {b : Nat} {e : TypeId} {sz : Nat} {f : Bool} {rows : List (List TV)} (h : BRep w F η hp b (.sl e sz f rows)) (h0 : 0 < sz) : ∃ news, Src w F (η b) sz rows news := by
  obtain ⟨cells, h1, h2, h3⟩ := h
  have hone : ∀ v ∈ cells, v.oneCell' = true := fun v hv => by
    obtain ⟨k, hk⟩ := List.mem_iff_getElem?.1 hv
    have hkl : k < rows.length * sz := by rw [← h1.1]; exact (List.getElem?_eq_some_iff.1 hk).1
    obtain ⟨q1, q2, q3⟩ := idx_div h0 hkl
    have hrl : k % sz < (rows[k / sz]).length := by rw [h2 _ (List.getElem_mem q1)]; exact q2
    obtain ⟨u, h4, h5⟩ := h3 _ _ _ _ (List.getElem?_eq_getElem q1) (List.getElem?_eq_getElem hrl)
    rw [q3, hk] at h4
    injection h4 with h4
    subst h4
    exact h5.oneCell
  rcases h1.2 with ⟨e1, e2⟩ | ⟨g, cap, cur, e1, e2, e3, e4, e5, e6, e7⟩
  · have : rows = [] := List.eq_nil_of_length_eq_zero e2
    subst this
    exact ⟨cells, none, 0, e1, by simpa using h1.1, h2, h3, hone, .inl rfl⟩
  · have hcl := h1.cells (g := g) (by rw [e1]; rfl)
    exact ⟨cells, _, cap, e1, h1.1, h2, h3, hone, .inr ⟨g, 0, rfl, fun j v hv => by have := hcl j v hv; rwa [addr_add] at this⟩⟩

theorem ownsRow_zero {base : Nat} {e : TypeId} {sz n : Nat} {v : Value} {xs : List Value} (h : w.ownsRow base e sz v n xs) : w.ownsRow 0 e sz v n xs := by
  obtain ⟨h1, h2⟩ := h
  refine ⟨h1, ?_⟩
  rcases h2 with h2 | ⟨g, cap, cur, q1, q2, q3⟩
  · exact .inl h2
  · exact .inr ⟨g, cap, cur, q1, Nat.zero_le _, q3⟩

theorem append_run {e T T' : TypeId} {ye yT : Ty} (hyT : TyFits P T yT) (hs : yT.shp = .slice e) (hye : TyFits P e ye) (hz : ye.zero.length = ye.size) (h0 : 0 < ye.size) (hby : 0 < ye.bytes)
    {v : Value} {n : Nat} {xs : List Value} (hown : w.ownsRow 0 e ye.size v n xs) {u : Value} {rows : List (List TV)} {news : List Value} (hu : Src w F u ye.size rows news) (hb : (n + rows.length) * ye.bytes ≤ 140737488355328) :
    ∃ v' w', (Builtin.append_ #[T, T] T' #[v, u]).run P w = .ok v' w' ∧ w'.ownsRow 0 e ye.size v' (n + rows.length) (xs ++ news) ∧ w.grownBy w' v.ownBlock ∧ (∀ g, v'.ownBlock = some g → v.ownBlock = some g ∨ w.heap.size ≤ g) := by
  obtain ⟨ad, c, rfl, hl, _, _, h1, h2⟩ := hu
  obtain ⟨i, hi, hi1, hi2, hi3⟩ := hye.info
  obtain ⟨z, hz1, hz2, _⟩ := hi3 (by intro h; rw [h] at hz; simp at hz; omega)
  have hzs : z.cells.size = ye.size := by
    have := congrArg List.length hz2
    simp at this
    rw [this, hz]
  have ht := hyT.slice hs
  cases ad with
  | none =>
    have he : rows = [] := by
      rcases h2 with h2 | ⟨g, o, h2, _⟩
      · exact h2
      · cases h2
    subst he
    have hn : news = [] := List.eq_nil_of_length_eq_zero (by simpa using hl)
    subst hn
    refine ⟨v, w, ?_, by simpa using hown, ⟨rfl, rfl, rfl, Nat.le_refl _, fun _ _ _ => rfl⟩, fun g hg => .inl hg⟩
    rcases hown.2 with ⟨rfl, rfl⟩ | ⟨g, cap, cur, rfl, _, hg, hnc, hcm, hcs, htake⟩
    · simp [Builtin.append_, run_underlying ht, sizeOf, typeInfo, hi, Builtin.lenOf, Builtin.firstCells]
    · simp [Builtin.append_, run_underlying ht, sizeOf, typeInfo, hi, Builtin.lenOf, Builtin.firstCells, hnc, storeCells]
  | some ad =>
    have hnews : ∀ (j : Nat) (v : Value), news[j]? = some v → w.cell? (ad.add j) = some v := fun j v hv => by
      rcases h2 with h2 | ⟨g, o, h2, h3⟩
      · subst h2
        have hn : news = [] := List.eq_nil_of_length_eq_zero (by simpa using hl)
        subst hn
        simp at hv
      · injection h2 with h2
        subst h2
        rw [addr_add]
        exact h3 j v hv
    have h63 : n + rows.length ≤ maxLen := by
      have : (n + rows.length) * 1 ≤ (n + rows.length) * ye.bytes := Nat.mul_le_mul_left _ hby
      simp only [maxLen]
      omega
    rcases hown.2 with ⟨e1, e2⟩ | ⟨g, cap, cur, e1, e2, e3, e4, e5, e6, e7⟩
    · have hx : xs = [] := List.eq_nil_of_length_eq_zero (by rw [hown.1, e2]; simp)
      subst e1; subst e2; subst hx
      obtain ⟨v', w', hr, ho, hg, _⟩ := run_append_own (P := P) w w.heap.size T T' e i z ye.size ye.bytes ht hi hz1 hi1 hi2 hzs h0 _ 0 [] (World.ownsRow_nil w _ e ye.size) ad rows.length c news hl hnews h1 h63 hb (Nat.le_refl _)
      exact ⟨v', w', hr, ownsRow_zero ho, hg, fun g hg' => .inr (ho.lt g hg').1⟩
    · subst e1
      obtain ⟨v', w', hr, ho, hg, _⟩ := run_append_own (P := P) w 0 T T' e i z ye.size ye.bytes ht hi hz1 hi1 hi2 hzs h0 _ n xs hown ad rows.length c news hl hnews h1 h63 hb (Nat.zero_le _)
      refine ⟨v', w', hr, ho, hg, fun g' hg' => ?_⟩
      by_cases hroom : n + rows.length ≤ cap
      · have hr2 := run_append_room (P := P) w T T' e i ht hi g n cap cur e3 ad rows.length c news (by rw [hl, hi1]) hnews h1 hroom (by rw [hl, e6, hi1, ← Nat.add_mul]; exact Nat.mul_le_mul_right _ hroom)
        rw [hr] at hr2
        injection hr2 with hr2 _
        subst hr2
        exact .inl hg'
      · have hcl := hown.cells (g := g) rfl
        have hr2 := run_append_grow (P := P) w T T' e i z ht hi hz1 ⟨g, 0, none⟩ n cap xs (by rw [hown.1, hi1]) hcl ad rows.length c news (by rw [hl, hi1]) hnews (by omega) (by simp only [maxLen] at h63; omega) (growslice_fits (by omega) (by rw [hi2]; exact hb))
        rw [hr] at hr2
        injection hr2 with hr2 _
        subst hr2
        simp only [Value.ownBlock, Option.some.injEq] at hg'
        exact .inr (by omega)

theorem brep_append {η' : Nat → Value} {hp' : Hp} {w' : World} {nb : Nat} {e : TypeId} {sz : Nat} {f : Bool} {rows rows' : List (List TV)} {xs news : List Value} {v' : Value} (hη : η' nb = v') (hFc : ∀ g, F g → w'.heap[g]? = w.heap[g]?)
    (hsz : ∀ row ∈ rows, row.length = sz) (htr : ∀ (i j : Nat) (row : List TV) (x : TV), rows[i]? = some row → row[j]? = some x → ∃ u, xs[i * sz + j]? = some u ∧ Tr w F x u) (hxl : xs.length = rows.length * sz)
    (hsz' : ∀ row ∈ rows', row.length = sz) (htr' : ∀ (i j : Nat) (row : List TV) (x : TV), rows'[i]? = some row → row[j]? = some x → ∃ u, news[i * sz + j]? = some u ∧ Tr w F x u)
    (ho : w'.ownsRow 0 e sz v' (rows.length + rows'.length) (xs ++ news)) : BRep w' F η' hp' nb (.sl e sz f (rows ++ rows')) := by
  refine ⟨xs ++ news, by rw [hη, List.length_append]; exact ho, fun r hr => ?_, fun i j row x hi hj => ?_⟩
  · rcases List.mem_append.1 hr with hr | hr
    · exact hsz r hr
    · exact hsz' r hr
  · have hkeep : ∀ {x : TV} {u : Value}, Tr w F x u → Tr w' F x u := fun hx => hx.keep (fun _ h => h) fun g hg o v => cell_keep (hFc g hg) o v
    rcases Nat.lt_or_ge i rows.length with hlt | hge
    · rw [List.getElem?_append_left hlt] at hi
      obtain ⟨u, h1, h2⟩ := htr i j row x hi hj
      exact ⟨u, by rw [List.getElem?_append_left (by exact (List.getElem?_eq_some_iff.1 h1).1)]; exact h1, hkeep h2⟩
    · rw [List.getElem?_append_right hge] at hi
      obtain ⟨u, h1, h2⟩ := htr' _ j row x hi hj
      have hm : rows.length * sz ≤ i * sz := Nat.mul_le_mul_right _ hge
      refine ⟨u, ?_, hkeep h2⟩
      rw [List.getElem?_append_right (by rw [hxl]; omega), hxl]
      rw [show i * sz + j - rows.length * sz = (i - rows.length) * sz + j by rw [Nat.sub_mul]; omega]
      exact h1

/-- Behind an append onto a slice of one's own: the old number is given up, the new one holds the longer slice. -/
theorem append_old (hR : Reps C w η F sl hp N a) {e : TypeId} {sz : Nat} {b nb : Nat} {rows rs : List (List TV)} {w' : World} {v' : Value}
    (hb : hp b = some (.sl e sz false rows)) (hn : hp nb = none) (hu : UnmentB hp nb) (hus : UnmentS sl nb) (hbs : C.bs.length ≤ nb)
    (hg : w.grownBy w' (η b).ownBlock) (hnew : ∀ g, v'.ownBlock = some g → (η b).ownBlock = some g ∨ w.heap.size ≤ g)
    (hbr : (∀ g, F g → w'.heap[g]? = w.heap[g]?) → BRep w' F (ηSet η nb v') (hpSet (hpSet hp b none) nb (some (.sl e sz false rs))) nb (.sl e sz false rs)) :
    HRep C w' (ηSet η nb v') F (hpSet (hpSet hp b none) nb (some (.sl e sz false rs))) ∧ (∀ g, F g → w'.heap[g]? = w.heap[g]?) ∧ (∀ c, UnmentS sl c ∨ Stays η (ηSet η nb v') hp (hpSet (hpSet hp b none) nb (some (.sl e sz false rs))) c) := by
  have h := hR.heap
  have hnb : nb ≠ b := by rintro rfl; rw [hb] at hn; cases hn
  have hbsb : C.bs.length ≤ b := by
    rcases Nat.lt_or_ge b C.bs.length with hh | hh
    · obtain ⟨⟨e', cells, h1⟩, _⟩ := h.bor b C.bs[b] (List.getElem?_eq_getElem hh)
      rw [hb] at h1; cases h1
    · exact hh
  have hFc : ∀ g, F g → w'.heap[g]? = w.heap[g]? := fun g hgF => hg.block g (h.Flt g hgF) (fun e => h.liveF b _ g hb rfl e.symm hgF)
  have hst : ∀ c, c ≠ nb → Stays η (ηSet η nb v') hp (hpSet (hpSet hp b none) nb (some (.sl e sz false rs))) c := fun c hc => by
    by_cases hcb : c = b
    · subst hcb; exact .inl (by rw [hpSet_other hc, hpSet_same])
    · exact Stays.of_same (by rw [hpSet_other hc, hpSet_other hcb]) (ηSet_other hc)
  refine ⟨?_, hFc, fun c => ?_⟩
  · refine h.step (fun c => c = b ∨ c = nb) (fun c hc => ?_) (fun c k g hc hk hl hgo => ?_) (fun _ h => h) hFc (fun c => ?_) (fun c k hc hk => ?_) (fun c c' k1 k2 g hc h1 h2 hne hl1 hl2 hgo => ?_) (fun _ _ _ _ _ _ h => .inl h)
      (fun c k g hc hk hl hgo hF => ?_) (fun c k g hc hk hl hgo => ?_) (fun g hgF => Nat.lt_of_lt_of_le (h.Flt g hgF) hg.size) (fun c k g hc hk hl hgo => ?_) (fun j g hj hjg => ?_) ?_ h.Fbd
    · have h1 : c ≠ nb := fun e => hc (.inr e)
      have h2 : c ≠ b := fun e => hc (.inl e)
      exact ⟨by rw [hpSet_other h1, hpSet_other h2], ηSet_other h1⟩
    · have h2 : c ≠ b := fun e => hc (.inl e)
      exact hg.block g (h.lt hk hgo) (fun e => h.sep c b k _ g hk hb h2 hl rfl hgo e.symm)
    · by_cases hc : c = nb
      · subst hc; exact .inl hu
      · exact .inr (hst c hc)
    · rcases hc with rfl | rfl
      · rw [hpSet_other (Ne.symm hnb), hpSet_same] at hk; cases hk
      · rw [hpSet_same] at hk; injection hk with hk; subst hk; exact hbr hFc
    · rcases hc with rfl | rfl
      · rw [hpSet_other (Ne.symm hnb), hpSet_same] at h1; cases h1
      · rw [ηSet_same] at hgo
        rw [ηSet_other (Ne.symm hne)]
        rw [hpSet_other (Ne.symm hne)] at h2
        by_cases hcb : c' = b
        · subst hcb; rw [hpSet_same] at h2; cases h2
        · rw [hpSet_other hcb] at h2
          intro hgo'
          rcases hnew g hgo with h3 | h3
          · exact h.sep c' b k2 _ g h2 hb hcb hl2 rfl hgo' h3
          · have := h.lt h2 hgo'; omega
    · rcases hc with rfl | rfl
      · rw [hpSet_other (Ne.symm hnb), hpSet_same] at hk; cases hk
      · rw [ηSet_same] at hgo
        rcases hnew g hgo with h3 | h3
        · exact h.liveF b _ g hb rfl h3 hF
        · have := h.Flt g hF; omega
    · rcases hc with rfl | rfl
      · rw [hpSet_other (Ne.symm hnb), hpSet_same] at hk; cases hk
      · rw [hpSet_same] at hk; injection hk with hk; subst hk; cases hl
    · rcases hc with rfl | rfl
      · rw [hpSet_other (Ne.symm hnb), hpSet_same] at hk; cases hk
      · rw [ηSet_same] at hgo
        rcases hnew g hgo with h3 | h3
        · rcases h.fresh b _ g hb rfl h3 with h4 | h4
          · exact .inl ⟨h4.1, hbs⟩
          · rw [List.getElem?_eq_none (by omega)] at h4; cases h4
        · exact .inl ⟨Nat.le_trans h.keep.size h3, hbs⟩
    · rcases hj with rfl | rfl
      · rw [List.getElem?_eq_none (by omega)] at hjg; cases hjg
      · rw [List.getElem?_eq_none (by omega)] at hjg; cases hjg
    · refine ⟨hg.os.trans h.keep.os, hg.tape.trans h.keep.tape, hg.output.trans h.keep.output, Nat.le_trans h.keep.size hg.size, fun k hk hkn => (hg.block k (Nat.lt_of_lt_of_le hk h.keep.size) fun e => ?_).trans (h.keep.block k hk hkn)⟩
      rcases h.fresh b _ k hb rfl e.symm with h4 | h4
      · omega
      · exact hkn (List.mem_of_getElem? h4)
  · by_cases hc : c = nb
    · subst hc; exact .inl hus
    · exact .inr (hst c hc)

/-- Behind an append onto a nil slice. -/
theorem append_new (hR : Reps C w η F sl hp N a) {nb : Nat} {k : Blk} {w' : World} {v' : Value} (hn : hp nb = none) (hu : UnmentB hp nb) (hus : UnmentS sl nb) (hbs : C.bs.length ≤ nb) (hl : k.live = true)
    (hg : w.grownBy w' none) (hnew : ∀ g, v'.ownBlock = some g → w.heap.size ≤ g) (hbr : (∀ g, F g → w'.heap[g]? = w.heap[g]?) → BRep w' F (ηSet η nb v') (hpSet hp nb (some k)) nb k) :
    HRep C w' (ηSet η nb v') F (hpSet hp nb (some k)) ∧ (∀ g, F g → w'.heap[g]? = w.heap[g]?) ∧ (∀ c, UnmentS sl c ∨ Stays η (ηSet η nb v') hp (hpSet hp nb (some k)) c) := by
  have hold : ∀ g, g < w.heap.size → w'.heap[g]? = w.heap[g]? := fun g hlt => hg.block g hlt (by simp)
  have hFc : ∀ g, F g → w'.heap[g]? = w.heap[g]? := fun g hgF => hold g (hR.heap.Flt g hgF)
  refine ⟨hR.heap.new hold hg.size hg.os hg.tape hg.output hn hu hbs hnew hl (hbr hFc), hFc, fun c => ?_⟩
  by_cases hc : c = nb
  · subst hc; exact .inl hus
  · exact .inr (Stays.of_same (hpSet_other hc) (ηSet_other hc))

theorem appExec {x z : Operand} {T : TypeId} (ho : o.op = .call { callee := .builtin .append, args := #[x, z], argTypes := #[T, T] }) {v u r : Value} {w' : World} (e1 : a.eval x = v) (e2 : a.eval z = u) (h : (Builtin.append_ #[T, T] o.type #[v, u]).run P w = .ok r w') : (execOp a.eval o).run P w = .ok (.value r) w' := by
  unfold execOp; rw [ho]
  simp only [resolve, invoke, builtin, Sem.run_bind, Sem.run_pure, Result.andThen_ok, List.map_toArray, List.map_cons, List.map_nil, e1, e2, h]

/-- What the second operand of an append holds. -/
inductive SrcOf (ev : Operand → SV) (z : Operand) (sz : Nat) : List (List TV) → List (Nat × Blk) → Prop
  | tree (rows : List (List TV)) (h : ev z = tS rows) (hsz : ∀ row ∈ rows, row.length = sz) : SrcOf ev z sz rows []
  | own (b : Nat) (e : TypeId) (f : Bool) (rows : List (List TV)) (h : ev z = .w (.c (.mref b))) : SrcOf ev z sz rows [(b, .sl e sz f rows)]
  | nil (h : ev z = nS) : SrcOf ev z sz [] []
theorem SrcOf.src {z : Operand} {sz : Nat} {rows : List (List TV)} {need : List (Nat × Blk)} (h : SrcOf ev z sz rows need) (h0 : 0 < sz) (hR : Reps C w η F sl hp N a) (he : evalS sl z = ev z) (hn : ∀ p ∈ need, hp p.1 = some p.2) : ∃ news, Src w F (a.eval z) sz rows news := by
  cases h with
  | tree rows h hsz => exact Src.ofTree (hR.treev (he.trans h)) h0 hsz
  | own b e f rows h =>
    have hb := hn (b, .sl e sz f rows) (by simp)
    rw [hR.mrefv (he.trans h) hb]
    exact Src.ofBlk (hR.heap.blocks b _ hb) h0
  | nil h => rw [hR.nilv (he.trans h)]; exact ⟨[], none, 0, rfl, by simp, by simp, by simp, by simp, .inl rfl⟩

theorem OStep.appN {x z : Operand} {T e : TypeId} {yT ye : Ty} {nb : Nat} {rows : List (List TV)} {need : List (Nat × Blk)} (ho : o.op = .call { callee := .builtin .append, args := #[x, z], argTypes := #[T, T] }) (hx : ev x = nS) (hyT : TyFits P T yT) (hs : yT.shp = .slice e) (hye : TyFits P e ye) (hz : ye.zero.length = ye.size) (h0 : 0 < ye.size) (hby : 0 < ye.bytes)
    (hsrc : SrcOf ev z ye.size rows need) (hb : rows.length * ye.bytes ≤ 140737488355328) : OStep P o ev ⟨need, [nb], [(nb, some (.sl e ye.size false rows))], .w (.c (.mref nb))⟩ :=
  .heap fun C w η F sl hp N a hR hev hnd hnew => by
    obtain ⟨hn, hu, hus, hbs⟩ := hnew nb (by simp)
    have e1 := hR.nilv ((hev x (by simp [ho, Op.operands, Call.operands])).trans hx)
    obtain ⟨news, hS⟩ := hsrc.src h0 hR (hev z (by simp [ho, Op.operands, Call.operands])) hnd
    obtain ⟨v', w', hr, hO, hg, hnw⟩ := append_run (P := P) (w := w) (T' := o.type) hyT hs hye hz h0 hby (World.ownsRow_nil w 0 e ye.size) hS (by simpa using hb)
    obtain ⟨_, _, _, hl, hsz, htr, _⟩ := hS
    obtain ⟨h1, h2, h3⟩ := append_new hR (k := .sl e ye.size false rows) (v' := v') hn hu hus hbs rfl hg (fun g hgo => (hnw g hgo).resolve_left (by simp [Value.ownBlock])) (fun hFc => brep_append (rows := []) (xs := []) (ηSet_same _ _ _) hFc (by simp) (by simp) (by simp) hsz htr (by simpa using hO))
    refine ⟨v', w', _, F, .inl (appExec ho e1 rfl hr), h1, fun _ h => h, h2, h3, ?_⟩
    simp only [SRep, WRep, CRep, hpUpd, hpSet_same, ηSet_same]

theorem OStep.appM {x z : Operand} {T e : TypeId} {yT ye : Ty} {b nb : Nat} {rows rows' : List (List TV)} {need : List (Nat × Blk)} (ho : o.op = .call { callee := .builtin .append, args := #[x, z], argTypes := #[T, T] }) (hx : ev x = .w (.c (.mref b))) (hyT : TyFits P T yT) (hs : yT.shp = .slice e) (hye : TyFits P e ye) (hz : ye.zero.length = ye.size) (h0 : 0 < ye.size) (hby : 0 < ye.bytes)
    (hsrc : SrcOf ev z ye.size rows' need) (hb : (rows.length + rows'.length) * ye.bytes ≤ 140737488355328) : OStep P o ev ⟨(b, .sl e ye.size false rows) :: need, [nb], [(b, none), (nb, some (.sl e ye.size false (rows ++ rows')))], .w (.c (.mref nb))⟩ :=
  .heap fun C w η F sl hp N a hR hev hnd hnew => by
    obtain ⟨hn, hu, hus, hbs⟩ := hnew nb (by simp)
    have hbb : hp b = some (.sl e ye.size false rows) := hnd (b, .sl e ye.size false rows) (by simp)
    have e1 := hR.mrefv ((hev x (by simp [ho, Op.operands, Call.operands])).trans hx) hbb
    obtain ⟨news, hS⟩ := hsrc.src h0 hR (hev z (by simp [ho, Op.operands, Call.operands])) (fun p hp' => hnd p (by simp [hp']))
    obtain ⟨cells, hown, hszb, htrb⟩ := hR.heap.blocks b _ hbb
    obtain ⟨v', w', hr, hO, hg, hnw⟩ := append_run (P := P) (w := w) (T' := o.type) hyT hs hye hz h0 hby hown hS hb
    obtain ⟨_, _, _, hl, hsz, htr, _⟩ := hS
    obtain ⟨h1, h2, h3⟩ := append_old hR (rs := rows ++ rows') hbb hn hu hus hbs hg hnw (fun hFc => brep_append (ηSet_same _ _ _) hFc hszb htrb hown.1 hsz htr hO)
    refine ⟨v', w', _, F, .inl (appExec ho e1 rfl hr), h1, fun _ h => h, h2, h3, ?_⟩
    simp only [SRep, WRep, CRep, hpUpd, hpSet_same, ηSet_same]
end
#print axioms OStep.appM
end Go.Proofs.YtjfkdjlmajfljaaDoor
