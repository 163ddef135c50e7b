/- A slice of one's own whose elements are slices of one's own that grow: operations on abstract values. -/
import Derived.Test.YtmefipdgohflmaaDoorMapB
set_option linter.unusedVariables false
set_option linter.unusedSectionVars false
set_option maxRecDepth 20000
namespace Go.Proofs.YtmefipdgohflmaaDoor
open Go.RowKit Q

/-- A slice (elements of type e) of slices of ints; the slice at the hole is held elsewhere. -/
def gridΦ (e et : TypeId) (rows : List (List Int)) (hole : Option Nat) : World → Value → Prop := fun w v => ∃ (g : Nat) (ins cs : List Value),
  v = .tuple (Value.slice (some ⟨g, 0, none⟩) rows.length rows.length :: ins).toArray ∧ ins.length = rows.length ∧ cs.length = rows.length ∧ rows.length ≤ maxLen ∧
  w.heap[g]? = some (.cells cs.toArray e (0, 0)) ∧ (∀ y ∈ cs, y.oneCell' = true) ∧
  (∀ (i : Nat) (x : Value) (r : List Int), ins[i]? = some x → rows[i]? = some r → hole ≠ some i → cs[i]? = some x ∧ w.ownsRow 0 et 1 x r.length (r.map (Value.int .i64))) ∧
  (∀ i, hole = some i → i < rows.length ∧ ins[i]? = some (.slice none 0 0)) ∧
  (∀ (i : Nat) (x : Value) (g' : Nat), ins[i]? = some x → x.ownBlock = some g' → g' ≠ g) ∧
  ∀ (i j : Nat) (x y : Value) (g' : Nat), ins[i]? = some x → ins[j]? = some y → i ≠ j → x.ownBlock = some g' → y.ownBlock ≠ some g'
theorem own_grid {g n g' : Nat} {ins : List Value} : Own (.tuple (Value.slice (some ⟨g, 0, none⟩) n n :: ins).toArray) g' ↔ g' = g ∨ ∃ (i : Nat) (x : Value), ins[i]? = some x ∧ x.ownBlock = some g' := by
  constructor
  · rintro ⟨v, hv, hg⟩
    rw [List.mem_toArray] at hv
    rcases List.mem_cons.1 hv with rfl | hv
    · exact .inl (Option.some.inj hg).symm
    · obtain ⟨i, hi⟩ := List.getElem?_of_mem hv
      exact .inr ⟨i, v, hi, hg⟩
  · rintro (rfl | ⟨i, x, hi, hg⟩)
    · exact ⟨_, List.mem_toArray.2 (List.mem_cons_self ..), rfl⟩
    · exact ⟨x, List.mem_toArray.2 (List.mem_cons_of_mem _ (List.mem_of_getElem? hi)), hg⟩
theorem hd_grid {g n : Nat} {ins : List Value} : hdV (.tuple (Value.slice (some ⟨g, 0, none⟩) n n :: ins).toArray) = .slice (some ⟨g, 0, none⟩) n n := by simp [hdV]
theorem ownsRow_stay {w w' : World} {et : TypeId} {x : Value} {n : Nat} {xs : List Value} (h : w.ownsRow 0 et 1 x n xs) (hg : ∀ g, x.ownBlock = some g → w'.heap[g]? = w.heap[g]?) : w'.ownsRow 0 et 1 x n xs := by
  refine ⟨h.1, ?_⟩
  rcases h.2 with h1 | ⟨g, cap, cur, e1, e2, e3, e4⟩
  · exact .inl h1
  · exact .inr ⟨g, cap, cur, e1, e2, by rw [hg g (by rw [e1]; rfl)]; exact e3, e4⟩
theorem grid_own {w : World} {e et : TypeId} {rows : List (List Int)} {hole : Option Nat} {v : Value} (h : gridΦ e et rows hole w v) : ∀ g, Own v g → g < w.heap.size := by
  obtain ⟨g, ins, cs, rfl, h1, h2, _, h3, h4, h5, h6, h7, h8⟩ := h
  intro g' hg
  rcases own_grid.1 hg with rfl | ⟨i, x, hi, hx⟩
  · exact (Array.getElem?_eq_some_iff.1 h3).1
  · by_cases hh : hole = some i
    · have := (h6 i hh).2
      rw [hi] at this
      injection this with this
      subst this
      cases hx
    · have hil : i < rows.length := by rw [← h1]; exact (List.getElem?_eq_some_iff.1 hi).1
      exact ((h5 i x _ hi (List.getElem?_eq_getElem hil) hh).2.lt g' hx).2
theorem grid_stay {w w' : World} {e et : TypeId} {rows : List (List Int)} {hole : Option Nat} {v : Value} (h : gridΦ e et rows hole w v) (hw : ∀ g, Own v g → w'.heap[g]? = w.heap[g]?) : gridΦ e et rows hole w' v := by
  obtain ⟨g, ins, cs, rfl, h1, h2, h0, h3, h4, h5, h6, h7, h8⟩ := h
  refine ⟨g, ins, cs, rfl, h1, h2, h0, by rw [hw g (own_grid.2 (.inl rfl))]; exact h3, h4, fun i x r hi hr hh => ?_, h6, h7, h8⟩
  obtain ⟨q1, q2⟩ := h5 i x r hi hr hh
  exact ⟨q1, ownsRow_stay q2 fun g' hg' => hw g' (own_grid.2 (.inr ⟨i, x, hi, hg'⟩))⟩
theorem grid_rep {w : World} {F : Nat → Prop} {η : Nat → Value} {hp : Hp} {b : Nat} {e et : TypeId} {rows : List (List Int)} {hole : Option Nat} (h : gridΦ e et rows hole w (η b)) : BRep w F η hp b (.gh (gridΦ e et rows hole)) := by
  refine ⟨?_, grid_own h, h, fun w' hw => grid_stay h hw⟩
  obtain ⟨g, ins, cs, h0, _⟩ := h
  rw [h0, hd_grid]; rfl
section
variable {C : Ctx} {w w' : World} {η : Nat → Value} {F : Nat → Prop} {hp : Hp}
/-- A part of a ghost block becomes a block by itself. -/
theorem HRep.gsplit (h : HRep C w η F hp) {b nb : Nat} {Φ Φ' : World → Value → Prop} {v' x : Value} {e : TypeId} {sz : Nat} {rows : List (List TV)} (hb : hp b = some (.gh Φ)) (hn : hp nb = none) (hu : UnmentB hp nb) (hbs : C.bs.length ≤ nb)
    (hv : ∀ g, Own v' g → Own (η b) g) (hx : ∀ g, Own x g → Own (η b) g) (hvx : ∀ g, Own v' g → ¬ Own x g) (hd : hdV v' = hdV (η b))
    (hr : BRep w F (ηSet (ηSet η b v') nb x) (hpSet (hpSet hp b (some (.gh Φ'))) nb (some (.sl e sz false rows))) b (.gh Φ'))
    (hr2 : BRep w F (ηSet (ηSet η b v') nb x) (hpSet (hpSet hp b (some (.gh Φ'))) nb (some (.sl e sz false rows))) nb (.sl e sz false rows)) :
    HRep C w (ηSet (ηSet η b v') nb x) F (hpSet (hpSet hp b (some (.gh Φ'))) nb (some (.sl e sz false rows))) ∧ (∀ c, c = nb ∨ Stays η (ηSet (ηSet η b v') nb x) hp (hpSet (hpSet hp b (some (.gh Φ'))) nb (some (.sl e sz false rows))) c) := by
  have hnb : nb ≠ b := by rintro rfl; rw [hb] at hn; cases hn
  have hbn : b ≠ nb := Ne.symm hnb
  have hηb : ηSet (ηSet η b v') nb x b = v' := by rw [ηSet_other hbn, ηSet_same]
  have hηn : ηSet (ηSet η b v') nb x nb = x := ηSet_same _ _ _
  have hηo : ∀ c, c ≠ b → c ≠ nb → ηSet (ηSet η b v') nb x c = η c := fun c h1 h2 => by rw [ηSet_other h2, ηSet_other h1]
  have hpb : hpSet (hpSet hp b (some (.gh Φ'))) nb (some (.sl e sz false rows)) b = some (.gh Φ') := by rw [hpSet_other hbn, hpSet_same]
  have hpn : hpSet (hpSet hp b (some (.gh Φ'))) nb (some (.sl e sz false rows)) nb = some (.sl e sz false rows) := hpSet_same _ _ _
  have hpo : ∀ c, c ≠ b → c ≠ nb → hpSet (hpSet hp b (some (.gh Φ'))) nb (some (.sl e sz false rows)) c = hp c := fun c h1 h2 => by rw [hpSet_other h2, hpSet_other h1]
  have hst : ∀ c, c ≠ nb → Stays η (ηSet (ηSet η b v') nb x) hp (hpSet (hpSet hp b (some (.gh Φ'))) nb (some (.sl e sz false rows))) c := fun c hc => by
    by_cases hcb : c = b
    · subst hcb; exact .inr (.inr (.inr ⟨Φ, Φ', hb, hpb, by rw [hηb]; exact hd⟩))
    · exact Stays.of_same (hpo c hcb hc) (hηo c hcb hc)
  generalize hη' : ηSet (ηSet η b v') nb x = η' at *
  generalize hhp' : hpSet (hpSet hp b (some (.gh Φ'))) nb (some (.sl e sz false rows)) = hp' at *
  have hown : ∀ c g, (c = b ∨ c = nb) → Own (η' c) g → Own (η b) g := fun c g hc hg => by
    rcases hc with rfl | rfl
    · rw [hηb] at hg; exact hv g hg
    · rw [hηn] at hg; exact hx g hg
  refine ⟨?_, fun c => ?_⟩
  · refine h.step (fun c => c = b ∨ c = nb) (fun c hc => ⟨hpo c (fun q => hc (.inl q)) fun q => hc (.inr q), hηo c (fun q => hc (.inl q)) fun q => hc (.inr q)⟩) (fun _ _ _ _ _ _ _ => rfl) (Nat.le_refl _) (fun _ h => h) (fun _ _ => rfl) (fun c => ?_) (fun c k hc hk => ?_) (fun c c' k1 k2 g hc h1 h2 hne hl1 hl2 hgo hgo' => ?_) (fun _ _ _ _ _ _ h => .inl h)
      (fun c k g hc hk hl hgo hF => h.liveF b _ g hb rfl (hown c g hc hgo) hF) (fun c k g hc hk hl hgo => ?_) h.Flt (fun c k g hc hk hl hgo => ?_) (fun j v k hj hjg hk => ?_) h.keep h.Fbd
    · by_cases hc : c = nb
      · subst hc; exact .inl hu
      · exact .inr (hst c hc)
    · rcases hc with rfl | rfl
      · rw [hpb] at hk; injection hk with hk; subst hk; exact hr
      · rw [hpn] at hk; injection hk with hk; subst hk; exact hr2
    · by_cases hc' : c' = b ∨ c' = nb
      · rcases hc with rfl | rfl <;> rcases hc' with rfl | rfl
        · exact hne rfl
        · rw [hηb] at hgo; rw [hηn] at hgo'; exact hvx g hgo hgo'
        · rw [hηn] at hgo; rw [hηb] at hgo'; exact hvx g hgo' hgo
        · exact hne rfl
      · have q1 : c' ≠ b := fun q => hc' (.inl q)
        have q2 : c' ≠ nb := fun q => hc' (.inr q)
        rw [hpo c' q1 q2] at h2
        rw [hηo c' q1 q2] at hgo'
        exact h.sep b c' _ k2 g hb h2 (Ne.symm q1) rfl hl2 (hown c g hc hgo) hgo'
    · rcases hc with rfl | rfl
      · rw [hpb] at hk; injection hk with hk; subst hk; cases hl
      · rw [hpn] at hk; injection hk with hk; subst hk; cases hl
    · rcases h.fresh b _ g hb rfl (hown c g hc hgo) with h4 | h4
      · refine .inl ⟨h4.1, ?_⟩
        rcases hc with rfl | rfl
        · exact h4.2
        · exact hbs
      · exact .inr h4
    · rcases hj with rfl | rfl
      · exact absurd (h.bor j v _ hjg hb).2 (by simp [Blk.isGh])
      · rw [List.getElem?_eq_none (by omega)] at hjg; cases hjg
  · by_cases hc : c = nb
    · exact .inl hc
    · exact .inr (hst c hc)
/-- A block becomes a part of a ghost block, of which a block of memory is written. -/
theorem HRep.gfuse (h : HRep C w η F hp) {b c0 : Nat} {Φ Φ' : World → Value → Prop} {v' : Value} {e : TypeId} {sz : Nat} {rows : List (List TV)} (hb : hp b = some (.gh Φ)) (hc0 : hp c0 = some (.sl e sz false rows))
    (hblk : ∀ g, g < w.heap.size → ¬ Own (η b) g → w'.heap[g]? = w.heap[g]?) (hs : w.heap.size ≤ w'.heap.size) (ho : w'.os = w.os) (ht : w'.tape = w.tape) (hout : w'.output = w.output)
    (hv : ∀ g, Own v' g → Own (η b) g ∨ Own (η c0) g) (hd : hdV v' = hdV (η b)) (hr : BRep w' F (ηSet η b v') (hpSet (hpSet hp c0 none) b (some (.gh Φ'))) b (.gh Φ')) :
    HRep C w' (ηSet η b v') F (hpSet (hpSet hp c0 none) b (some (.gh Φ'))) ∧ (∀ g, F g → w'.heap[g]? = w.heap[g]?) ∧ (∀ c, Stays η (ηSet η b v') hp (hpSet (hpSet hp c0 none) b (some (.gh Φ'))) c) := by
  have hcb : c0 ≠ b := by rintro rfl; rw [hb] at hc0; cases hc0
  have hFc : ∀ g, F g → w'.heap[g]? = w.heap[g]? := fun g hg => hblk g (h.Flt g hg) fun ho => h.liveF b _ g hb rfl ho hg
  have hpb : hpSet (hpSet hp c0 none) b (some (.gh Φ')) b = some (.gh Φ') := hpSet_same _ _ _
  have hpc : hpSet (hpSet hp c0 none) b (some (.gh Φ')) c0 = none := by rw [hpSet_other hcb, hpSet_same]
  have hpo : ∀ c, c ≠ b → c ≠ c0 → hpSet (hpSet hp c0 none) b (some (.gh Φ')) c = hp c := fun c h1 h2 => by rw [hpSet_other h1, hpSet_other h2]
  have hst : ∀ c, Stays η (ηSet η b v') hp (hpSet (hpSet hp c0 none) b (some (.gh Φ'))) c := fun c => by
    by_cases hc : c = b
    · subst hc; exact .inr (.inr (.inr ⟨Φ, Φ', hb, hpb, by rw [ηSet_same]; exact hd⟩))
    · by_cases hc' : c = c0
      · subst hc'; exact .inl hpc
      · exact Stays.of_same (hpo c hc hc') (ηSet_other hc)
  generalize hhp' : hpSet (hpSet hp c0 none) b (some (.gh Φ')) = hp' at *
  refine ⟨?_, hFc, hst⟩
  have hown : ∀ g, Own (ηSet η b v' b) g → Own (η b) g ∨ Own (η c0) g := fun g hg => by rw [ηSet_same] at hg; exact hv g hg
  refine h.step (fun c => c = b ∨ c = c0) (fun c hc => ⟨hpo c (fun q => hc (.inl q)) fun q => hc (.inr q), ηSet_other fun q => hc (.inl q)⟩) (fun c k g hc hk hl hgo => ?_) hs (fun _ h => h) hFc (fun c => .inr (hst c)) (fun c k hc hk => ?_) (fun c c' k1 k2 g hc h1 h2 hne hl1 hl2 hgo hgo' => ?_) (fun _ _ _ _ _ _ h => .inl h)
      (fun c k g hc hk hl hgo hF => ?_) (fun c k g hc hk hl hgo => ?_) (fun g hg => Nat.lt_of_lt_of_le (h.Flt g hg) hs) (fun c k g hc hk hl hgo => ?_) (fun j v k hj hjg hk => ?_) ?_ h.Fbd
  · exact hblk g (h.lt hk hgo) fun ho => h.sep c b k _ g hk hb (fun q => hc (.inl q)) hl rfl hgo ho
  · rcases hc with rfl | rfl
    · rw [hpb] at hk; injection hk with hk; subst hk; exact hr
    · rw [hpc] at hk; cases hk
  · rcases hc with rfl | rfl
    · have hc2 : c' ≠ c0 := by rintro rfl; rw [hpc] at h2; cases h2
      rw [hpo c' (Ne.symm hne) hc2] at h2
      rw [ηSet_other (Ne.symm hne)] at hgo'
      rcases hown g hgo with q | q
      · exact h.sep c c' _ k2 g hb h2 hne rfl hl2 q hgo'
      · exact h.sep c0 c' _ k2 g hc0 h2 (Ne.symm hc2) rfl hl2 q hgo'
    · rw [hpc] at h1; cases h1
  · rcases hc with rfl | rfl
    · rcases hown g hgo with q | q
      · exact h.liveF c _ g hb rfl q hF
      · exact h.liveF c0 _ g hc0 rfl q hF
    · rw [hpc] at hk; cases hk
  · rcases hc with rfl | rfl
    · rw [hpb] at hk; injection hk with hk; subst hk; cases hl
    · rw [hpc] at hk; cases hk
  · rcases hc with rfl | rfl
    · have hbn := h.ghOwn hb
      rcases hown g hgo with q | q
      · exact h.fresh c _ g hb rfl q
      · rcases h.fresh c0 _ g hc0 rfl q with q2 | q2
        · exact .inl ⟨q2.1, hbn⟩
        · exact .inr q2
    · rw [hpc] at hk; cases hk
  · rcases hj with rfl | rfl
    · exact absurd (h.bor j v _ hjg hb).2 (by simp [Blk.isGh])
    · rw [hpc] at hk; cases hk
  · refine ⟨ho.trans h.keep.os, ht.trans h.keep.tape, hout.trans h.keep.output, Nat.le_trans h.keep.size hs, fun k hk hkn => (hblk k (Nat.lt_of_lt_of_le hk h.keep.size) fun e => ?_).trans (h.keep.block k hk hkn)⟩
    rcases h.fresh b _ k hb rfl e with h4 | h4
    · omega
    · exact hkn h4
end
section
variable {P : Program} {o : Oper} {ev : Operand → SV} {t e et : TypeId} {y ye : Ty} {rows : List (List Int)} {hole : Option Nat}
theorem OStep.idxG {x z : Operand} {b n : Nat} {k : IntKind} (ho : o.op = .indexAddr t x z) (hx : ev x = .w (.c (.mref b))) (hz : ev z = iS k (n : Int)) (hy : TyFits P t y) (hs : y.shp = .slice e) (hye : TyFits P e ye) (hsz : ye.size = 1) (hi : n < rows.length) :
    OStep P o ev ⟨[(b, .gh (gridΦ e et rows hole))], [], [], .w (.c (.ptr b n 0))⟩ :=
  .pure fun C w η F sl hp N a hR hev hn => by
    have hb : hp b = some (.gh (gridΦ e et rows hole)) := hn (b, _) (by simp)
    have h1 := hR.eval x
    rw [hev x (by simp [ho, Op.operands]), hx] at h1
    simp only [SRep, WRep, CRep, hb] at h1
    have h2 := hR.int ((hev z (by simp [ho, Op.operands])).trans hz)
    obtain ⟨_, _, ⟨g, ins, cs, h3, _⟩, _⟩ := hR.heap.blocks b _ hb
    rw [h3, hd_grid] at h1
    refine ⟨.pointer (some ⟨g, n, none⟩), ?_, ?_⟩
    · unfold execOp; rw [ho]
      simp [Instr.indexAt, h1, h2, asIntOf, run_underlying (hy.slice hs), hye.run_size, hsz, hi, addr_add]
    · simp only [SRep, WRep, CRep, hb]
      exact ⟨g, 0, rows.length, rows.length, by rw [h3, hd_grid], by simp⟩
/-- An element is taken out: the slice that it is becomes a block by itself. -/
theorem OStep.ldG {x : Operand} {b i nb : Nat} {r : List Int} (ho : o.op = .load t x) (hx : ev x = .w (.c (.ptr b i 0))) (hy : TyFits P t y) (ha : y.isAgg = false) (hi : rows[i]? = some r) :
    OStep P o ev ⟨[(b, .gh (gridΦ e et rows none))], [nb], [(b, some (.gh (gridΦ e et rows (some i)))), (nb, some (.sl et 1 false (r.map iRow)))], .w (.c (.mref nb))⟩ :=
  .heap fun C w η F sl hp N a hR hev hnd hnew => by
    obtain ⟨hn, hu, hus, hbs⟩ := hnew nb (by simp)
    have hb : hp b = some (.gh (gridΦ e et rows none)) := hnd (b, _) (by simp)
    have h1 := hR.eval x
    rw [hev x (by simp [ho, Op.operands]), hx] at h1
    simp only [SRep, WRep, CRep, hb] at h1
    obtain ⟨g0, z0, n0, c0, h2, h3⟩ := h1
    obtain ⟨_, _, ⟨g, ins, cs, h4, l1, l2, l0, k3, k4, k5, k6, k7, k8⟩, _⟩ := hR.heap.blocks b _ hb
    have hil : i < rows.length := (List.getElem?_eq_some_iff.1 hi).1
    obtain ⟨v, hv⟩ : ∃ v, ins[i]? = some v := ⟨ins[i], List.getElem?_eq_getElem (by omega)⟩
    obtain ⟨c1, c2⟩ := k5 i v r hv hi (by simp)
    rw [h4, hd_grid] at h2
    injection h2 with h2
    injection h2 with h2
    injection h2 with h2 h2z
    subst h2; subst h2z
    have hcell : w.cell? ⟨g, i, none⟩ = some v := by rw [cell_of_row w g i _ _ _ k3]; simpa using c1
    have hrun := loadExec (P := P) (o := o) ho (by rw [h3, Nat.add_zero, Nat.zero_add]) (run_loadOne hy ha hcell)
    have hnb : nb ≠ b := by rintro rfl; rw [hb] at hn; cases hn
    have hset : ∀ j, (ins.set i (.slice none 0 0))[j]? = if i = j then some (.slice none 0 0) else ins[j]? := fun j => by
      rw [List.getElem?_set]
      by_cases hj : i = j
      · subst hj; rw [if_pos rfl, if_pos rfl, if_pos (by omega)]
      · rw [if_neg hj, if_neg hj]
    have hsl : w.ownsRow 0 et 1 v r.length (r.map (Value.int .i64)) := c2
    have hΦ : gridΦ e et rows (some i) w (.tuple (Value.slice (some ⟨g, 0, none⟩) rows.length rows.length :: ins.set i (.slice none 0 0)).toArray) := by
      refine ⟨g, ins.set i (.slice none 0 0), cs, rfl, by rw [List.length_set]; exact l1, l2, l0, k3, k4, fun j x' r' hj hr' hne => ?_, fun j hj => ?_, fun j x' g' hj hg' => ?_, fun j j' x' y' g' hj hj' hne hg' => ?_⟩
      · rw [hset, if_neg (fun q => hne (by rw [q]))] at hj
        exact k5 j x' r' hj hr' (by simp)
      · injection hj with hj
        subst hj
        exact ⟨hil, by rw [hset, if_pos rfl]⟩
      · rw [hset] at hj
        split at hj
        · injection hj with hj; subst hj; cases hg'
        · exact k7 j x' g' hj hg'
      · rw [hset] at hj hj'
        split at hj
        · injection hj with hj; subst hj; cases hg'
        · split at hj'
          · injection hj' with hj'; subst hj'; simp [Value.ownBlock]
          · exact k8 j j' x' y' g' hj hj' hne hg'
    have hηn : ηSet (ηSet η b (.tuple (Value.slice (some ⟨g, 0, none⟩) rows.length rows.length :: ins.set i (.slice none 0 0)).toArray)) nb v nb = v := ηSet_same _ _ _
    have hηb : ηSet (ηSet η b (.tuple (Value.slice (some ⟨g, 0, none⟩) rows.length rows.length :: ins.set i (.slice none 0 0)).toArray)) nb v b = .tuple (Value.slice (some ⟨g, 0, none⟩) rows.length rows.length :: ins.set i (.slice none 0 0)).toArray := by rw [ηSet_other (Ne.symm hnb), ηSet_same]
    obtain ⟨q1, q2⟩ := hR.heap.gsplit (Φ' := gridΦ e et rows (some i)) (v' := .tuple (Value.slice (some ⟨g, 0, none⟩) rows.length rows.length :: ins.set i (.slice none 0 0)).toArray) (x := v) (e := et) (sz := 1) (rows := r.map iRow) hb hn hu hbs
      (fun g' hg' => by
        rw [h4]
        refine own_grid.2 ((own_grid.1 hg').imp id fun ⟨j, x', hj, hx'⟩ => ?_)
        rw [hset] at hj
        split at hj
        · injection hj with hj; subst hj; cases hx'
        · exact ⟨j, x', hj, hx'⟩)
      (fun g' hg' => by rw [h4]; exact own_grid.2 (.inr ⟨i, v, hv, (own_block hsl).1 hg'⟩))
      (fun g' hg' hg2 => by
        have hg3 := (own_block hsl).1 hg2
        rcases own_grid.1 hg' with rfl | ⟨j, x', hj, hx'⟩
        · exact k7 i v _ hv hg3 rfl
        · rw [hset] at hj
          split at hj
          · injection hj with hj; subst hj; cases hx'
          · rename_i hij
            exact k8 i j v x' g' hv hj hij hg3 hx')
      (by rw [h4, hd_grid, hd_grid])
      (grid_rep (by rw [hηb]; exact hΦ))
      ⟨r.map (Value.int .i64), by rw [hηn, List.length_map]; exact hsl, fun row hrow => by obtain ⟨z, _, rfl⟩ := List.mem_map.1 hrow; rfl, fun j jj row x' hj hjj => by
        rw [List.getElem?_map, Option.map_eq_some_iff] at hj
        obtain ⟨z, hz1, rfl⟩ := hj
        have hjj0 : jj = 0 := by
          have := (List.getElem?_eq_some_iff.1 hjj).1
          simp [iRow] at this; omega
        subst hjj0
        simp only [iRow, List.getElem?_cons_zero, Option.some.injEq] at hjj
        subst hjj
        exact ⟨.int .i64 z, by rw [Nat.mul_one, Nat.add_zero, List.getElem?_map, hz1]; rfl, .int _ _⟩⟩
    refine ⟨v, w, _, F, .inl hrun, q1, fun _ h => h, fun _ _ => rfl, fun c => ?_, ?_⟩
    · rcases q2 c with rfl | q
      · exact .inl hus
      · exact .inr q
    · simp only [SRep, WRep, CRep, hpUpd, hpSet_same, ηSet_same]
/-- A slice of one's own is put where one was taken out. -/
theorem OStep.stG {x z : Operand} {b c i : Nat} {r' : List Int} (ho : o.op = .store t x z) (hx : ev x = .w (.c (.ptr b i 0))) (hz : ev z = .w (.c (.mref c))) (hy : TyFits P t y) (hl : y.size = 1) (hne : c ≠ b) :
    OStep P o ev ⟨[(b, .gh (gridΦ e et rows (some i))), (c, .sl et 1 false (r'.map iRow))], [], [(c, none), (b, some (.gh (gridΦ e et (rows.set i r') none)))], SV.any⟩ :=
  .heap fun C w η F sl hp N a hR hev hnd hnew => by
    have hb : hp b = some (.gh (gridΦ e et rows (some i))) := hnd (b, _) (by simp)
    have hc : hp c = some (.sl et 1 false (r'.map iRow)) := hnd (c, _) (by simp)
    have h1 := hR.eval x
    rw [hev x (by simp [ho, Op.operands]), hx] at h1
    simp only [SRep, WRep, CRep, hb] at h1
    obtain ⟨g0, z0, n0, c0, h2, h3⟩ := h1
    have h5 := hR.eval z
    rw [hev z (by simp [ho, Op.operands]), hz] at h5
    simp only [SRep, WRep, CRep, hc] at h5
    obtain ⟨_, hown0, ⟨g, ins, cs, h4, l1, l2, l0, k3, k4, k5, k6, k7, k8⟩, _⟩ := hR.heap.blocks b _ hb
    obtain ⟨hil, hhole⟩ := k6 i rfl
    obtain ⟨cells, hsl, _, hcells⟩ := hR.heap.blocks c _ hc
    rw [List.length_map] at hsl
    have hceq : cells = r'.map (Value.int .i64) := by
      refine List.ext_getElem (by rw [hsl.1, List.length_map, Nat.mul_one]) fun j h6 h7 => ?_
      have hj : j < r'.length := by simpa using h7
      obtain ⟨u, h8, h9⟩ := hcells j 0 (iRow r'[j]) (.int .i64 r'[j]) (by rw [List.getElem?_map, List.getElem?_eq_getElem hj]; rfl) rfl
      rw [Nat.mul_one, Nat.add_zero, List.getElem?_eq_getElem h6] at h8
      injection h8 with h8
      rw [h8, Tr.int_inv h9, List.getElem_map]
    rw [hceq] at hsl
    have hone : (η c).oneCell' = true := (hR.heap.oneη c _ hc).1 _ _ _ _ rfl
    rw [h4, hd_grid] at h2
    injection h2 with h2
    injection h2 with h2
    injection h2 with h2 h2z
    subst h2; subst h2z
    have hcz : (a.eval z).cells.toList = [η c] := by rw [h5]; exact cells_one hone
    have hrun := run_storeAt (P := P) (w := w) hy (g := g) (p := i) k3 (v := a.eval z) (by have := congrArg List.length hcz; simp at this; rw [hl]; exact this) (by rw [hl, l2]; omega) (by rw [hcz]; intro u hu; rw [List.mem_singleton] at hu; rw [hu]; exact hone)
    rw [hcz] at hrun
    have hput : ∀ j, (putAt cs i [η c])[j]? = if j = i then some (η c) else cs[j]? := fun j => by
      have : putAt cs i [η c] = cs.set i (η c) := by
        unfold putAt
        rw [List.set_eq_take_append_cons_drop, if_pos (by omega)]
        simp
      rw [this, List.getElem?_set]
      by_cases hj : i = j
      · subst hj; rw [if_pos rfl, if_pos rfl, if_pos (by omega)]
      · rw [if_neg hj, if_neg (fun q => hj q.symm)]
    have hputl : (putAt cs i [η c]).length = cs.length := by
      unfold putAt; simp; omega
    have hset : ∀ j, (ins.set i (η c))[j]? = if i = j then some (η c) else ins[j]? := fun j => by
      rw [List.getElem?_set]
      by_cases hj : i = j
      · subst hj; rw [if_pos rfl, if_pos rfl, if_pos (by omega)]
      · rw [if_neg hj, if_neg hj]
    have hsep : ∀ g', Own (η b) g' → ¬ Own (η c) g' := fun g' hg' => hR.heap.sep b c _ _ g' hb hc (Ne.symm hne) rfl rfl hg'
    have hgc : ∀ g', (η c).ownBlock = some g' → g' ≠ g := fun g' hg' e => by
      subst e
      exact hsep g' (by rw [h4]; exact own_grid.2 (.inl rfl)) (own_of_block hg')
    have hΦ : gridΦ e et (rows.set i r') none (w.setRow g (putAt cs i [η c]).toArray) (.tuple (Value.slice (some ⟨g, 0, none⟩) (rows.set i r').length (rows.set i r').length :: ins.set i (η c)).toArray) := by
      refine ⟨g, ins.set i (η c), putAt cs i [η c], rfl, by rw [List.length_set, List.length_set]; exact l1, by rw [hputl, List.length_set]; exact l2, by rw [List.length_set]; exact l0, setRow_heap w g _ _ _ _ k3, fun u hu => ?_, fun j x' r2 hj hr2 _ => ?_, (fun j hj => by cases hj), fun j x' g' hj hg' => ?_, fun j j' x' y' g' hj hj' hne' hg' => ?_⟩
      · obtain ⟨j, hj⟩ := List.getElem?_of_mem hu
        rw [hput] at hj
        split at hj
        · injection hj with hj; rw [← hj]; exact hone
        · exact k4 u (List.mem_of_getElem? hj)
      · rw [hset] at hj
        rw [List.getElem?_set] at hr2
        by_cases hij : i = j
        · subst hij
          rw [if_pos rfl] at hj
          rw [if_pos rfl, if_pos hil] at hr2
          injection hj with hj; injection hr2 with hr2
          subst hj; subst hr2
          refine ⟨by rw [hput, if_pos rfl], ownsRow_stay hsl fun g' hg' => setRow_other w g g' _ (hgc g' hg')⟩
        · rw [if_neg hij] at hj
          rw [if_neg hij] at hr2
          obtain ⟨q1, q2⟩ := k5 j x' r2 hj hr2 (fun q => hij (by injection q))
          exact ⟨by rw [hput, if_neg (fun q => hij q.symm)]; exact q1, ownsRow_stay q2 fun g' hg' => setRow_other w g g' _ (k7 j x' g' hj hg')⟩
      · rw [hset] at hj
        split at hj
        · injection hj with hj; subst hj; exact hgc g' hg'
        · exact k7 j x' g' hj hg'
      · have hin : ∀ (j : Nat) (x' : Value), ins[j]? = some x' → ∀ g', x'.ownBlock = some g' → (η c).ownBlock ≠ some g' := fun j x' hj g' hg' hg2 => hsep g' (by rw [h4]; exact own_grid.2 (.inr ⟨j, x', hj, hg'⟩)) (own_of_block hg2)
        rw [hset] at hj hj'
        split at hj <;> split at hj'
        · rename_i e1 e2; exact absurd (e1.symm.trans e2) hne'
        · injection hj with hj; subst hj
          exact fun q => hin j' y' hj' g' q hg'
        · injection hj' with hj'; subst hj'
          exact hin j x' hj g' hg'
        · exact k8 j j' x' y' g' hj hj' hne' hg'
    obtain ⟨q1, q2, q3⟩ := hR.heap.gfuse (w' := w.setRow g (putAt cs i [η c]).toArray) (Φ' := gridΦ e et (rows.set i r') none) (v' := .tuple (Value.slice (some ⟨g, 0, none⟩) (rows.set i r').length (rows.set i r').length :: ins.set i (η c)).toArray) hb hc
      (fun g' _ hg' => setRow_other w g g' _ fun q => hg' (by rw [h4, q]; exact own_grid.2 (.inl rfl))) (by simp) rfl rfl rfl
      (fun g' hg' => by
        rw [h4]
        rcases own_grid.1 hg' with rfl | ⟨j, x', hj, hx'⟩
        · exact .inl (own_grid.2 (.inl rfl))
        · rw [hset] at hj
          split at hj
          · injection hj with hj; subst hj; exact .inr (own_of_block hx')
          · exact .inl (own_grid.2 (.inr ⟨j, x', hj, hx'⟩)))
      (by rw [h4, hd_grid, hd_grid, List.length_set])
      (grid_rep (by rw [ηSet_same]; exact hΦ))
    refine ⟨undef, _, _, F, .inr ⟨?_, rfl⟩, q1, fun _ h => h, q2, fun c => .inr (q3 c), SRep.any _ _ _ _ _⟩
    unfold execOp; rw [ho]
    simp only [h3, Nat.add_zero, Nat.zero_add, Sem.run_bind, hrun, Result.andThen_ok]
    rfl
theorem OStep.makeG {x z : Operand} {k k' : IntKind} {n nb : Nat} (ho : o.op = .makeSlice t x z) (hx : ev x = iS k (n : Int)) (hz' : ev z = iS k' (n : Int)) (hy : TyFits P t y) (hs : y.shp = .slice e) (hye : TyFits P e ye) (hz : ye.zero = [.nil]) (hsz : ye.size = 1)
    (hb : ye.bytes * n ≤ 281474976710656) (hm : n ≤ maxLen) : OStep P o ev ⟨[], [nb], [(nb, some (.gh (gridΦ e et (List.replicate n []) none)))], .w (.c (.mref nb))⟩ :=
  .heap fun C w η F sl hp N a hR hev hnd hnew => by
    obtain ⟨hn, hu, hus, hbs⟩ := hnew nb (by simp)
    have e1 := hR.int ((hev x (by simp [ho, Op.operands])).trans hx)
    have e2 := hR.int ((hev z (by simp [ho, Op.operands])).trans hz')
    obtain ⟨i, hi, hi1, hi2, hi3⟩ := hye.info
    obtain ⟨zv, hz1, hz2, hz3⟩ := hi3 (by rw [hz]; simp)
    rw [hz] at hz2
    have hm' := hm
    simp only [maxLen] at hm'
    have hr := run_make (P := P) w t e i zv (hy.slice hs) hi hz1 k k' (n : Int) (n : Int) (by omega) (Int.le_refl _) (by rw [hi2]; have := Int.ofNat_le.2 hb; simpa using this) (by omega)
    simp only [Int.toNat_natCast, hi1, hsz] at hr
    have hz4 : zv.cells = #[.slice none 0 0] := by apply Array.ext'; rw [hz2]; rfl
    have hcs : madeCells zv.cells (n * 1) = (List.replicate n (Value.slice none 0 0)).toArray := by
      rw [hz4]
      apply Array.ext'
      refine List.ext_getElem (by simp [madeCells]) fun j h1 h2 => ?_
      simp [madeCells, Nat.mod_one]
    rw [hcs] at hr
    have hnil : ∀ (j : Nat) (x' : Value), (List.replicate n (Value.slice none 0 0))[j]? = some x' → x' = .slice none 0 0 := fun j x' hj => by
      rw [List.getElem?_replicate] at hj
      split at hj
      · injection hj with hj; exact hj.symm
      · cases hj
    have hold : ∀ g, g < w.heap.size → (w.alloc (.cells (List.replicate n (Value.slice none 0 0)).toArray e)).heap[g]? = w.heap[g]? := fun g hg => heap_alloc_old w _ hg
    have hΦ : gridΦ e et (List.replicate n []) none (w.alloc (.cells (List.replicate n (Value.slice none 0 0)).toArray e)) (.tuple (Value.slice (some ⟨w.heap.size, 0, none⟩) (List.replicate n ([] : List Int)).length (List.replicate n ([] : List Int)).length :: List.replicate n (Value.slice none 0 0)).toArray) := by
      refine ⟨w.heap.size, List.replicate n (.slice none 0 0), List.replicate n (.slice none 0 0), rfl, by simp, by simp, by simpa using hm, heap_alloc_new w _, fun u hu => ?_, fun j x' r hj hr' _ => ?_, (fun j hj => by cases hj), fun j x' g' hj hg' => ?_, fun j j' x' y' g' hj hj' _ hg' => ?_⟩
      · rw [List.eq_of_mem_replicate hu]; rfl
      · have e3 := hnil j x' hj
        have e4 : r = [] := by
          rw [List.getElem?_replicate] at hr'
          split at hr'
          · injection hr' with hr'; exact hr'.symm
          · cases hr'
        refine ⟨hj, ?_⟩
        rw [e3, e4]; exact World.ownsRow_nil _ 0 et 1
      · rw [hnil j x' hj] at hg'; cases hg'
      · rw [hnil j x' hj] at hg'; cases hg'
    refine ⟨.slice (some ⟨w.heap.size, 0, none⟩) n n, _, ηSet η nb (.tuple (Value.slice (some ⟨w.heap.size, 0, none⟩) (List.replicate n ([] : List Int)).length (List.replicate n ([] : List Int)).length :: List.replicate n (Value.slice none 0 0)).toArray), F, .inl ?_, ?_, fun _ h => h, fun g hg => hold g (hR.heap.Flt g hg), fun c => ?_, ?_⟩
    · unfold execOp; rw [ho]
      simp only [e1, e2, Sem.run_bind, hr, Result.andThen_ok]
      rfl
    · refine hR.heap.new hold (by simp) rfl rfl rfl hn hu hbs (fun g hg => ?_) rfl (grid_rep (by rw [ηSet_same]; exact hΦ))
      rcases own_grid.1 hg with rfl | ⟨j, x', hj, hg'⟩
      · exact Nat.le_refl _
      · rw [hnil j x' hj] at hg'; cases hg'
    · by_cases hc : c = nb
      · subst hc; exact .inl hus
      · exact .inr (Stays.of_same (hpSet_other hc) (ηSet_other hc))
    · simp only [SRep, WRep, CRep, hpUpd, hpSet_same, ηSet_same, hd_grid, List.length_replicate]
end
section
variable {N k : Nat} {β : Type} {q : β → Po} {all r : List Oper} {s : St} {τ : List (Option Eff)} {d : Option Tmp} {ty : TypeId} {pos : String} {aft : Array Edge} {m : M β} {T e et : TypeId} {yT ye : Ty} {kd kd' : IntKind} {x z : Operand}
theorem X.makeG (nb : Nat) {n : Int} (h : 0 ≤ n ∧ n < 1000000000000 → TS N k all q r (s.eff d ⟨[], [nb], [(nb, some (.gh (gridΦ e et (repD n) none)))], .w (.c (.mref nb))⟩) (some ⟨[], [nb], [(nb, some (.gh (gridΦ e et (repD n) none)))], .w (.c (.mref nb))⟩ :: τ) m) (hx : s.ev x = iS kd n := by exact rfl) (hz' : s.ev z = iS kd' n := by exact rfl) (hT : tys.get T = some yT := by exact rfl) (hs : yT.shp = .slice e := by exact rfl) (he : tys.get e = some ye := by exact rfl) (hz : ye.zero = [.nil] := by exact rfl) (h1 : ye.size = 1 := by exact rfl) (hby : Nat.ble ye.bytes 128 = true := by exact rfl) (hw : s.freshB k nb = true := by exact rfl) (hd : dstB N d = true := by exact rfl) : TS N k all q (⟨d, .makeSlice T x z, ty, pos, aft, none⟩ :: r) s τ (M.chk (0 ≤ n ∧ n < 1000000000000) m) := by
  refine X.chk fun hn => ?_
  have h1' : ye.bytes ≤ 128 := Nat.le_of_ble_eq_true hby
  have h2 : ye.bytes * n.toNat ≤ 128 * n.toNat := Nat.mul_le_mul_right _ h1'
  have hn1 : (n.toNat : Int) = n := Int.toNat_of_nonneg hn.1
  exact X.op (OStep.makeG (P := Tryd.prog) (et := et) (nb := nb) (n := n.toNat) (o := ⟨d, .makeSlice T x z, ty, pos, aft, none⟩) rfl (by rw [hn1]; exact hx) (by rw [hn1]; exact hz') (fits hT) hs (fits he) hz h1 (by omega) (by simp only [maxLen]; omega)) trivial (by simpa using hw) hd (h hn)
theorem X.idxG {rows : List (List Int)} {hole : Option Nat} {i : Int} {b : Nat} (h : 0 ≤ i ∧ i < (rows.length : Int) → TS N k all q r (s.put d (.w (.c (.ptr b i.toNat 0)))) (some ⟨[(b, .gh (gridΦ e et rows hole))], [], [], .w (.c (.ptr b i.toNat 0))⟩ :: τ) m) (hx : s.ev x = .w (.c (.mref b)) := by exact rfl) (hb : lookH s.heap b = some (.gh (gridΦ e et rows hole)) := by exact rfl) (hz : s.ev z = iS kd i := by exact rfl) (hT : tys.get T = some yT := by exact rfl) (hs : yT.shp = .slice e := by exact rfl) (he : tys.get e = some ye := by exact rfl) (h1 : ye.size = 1 := by exact rfl) (hd : dstB N d = true := by exact rfl) : TS N k all q (⟨d, .indexAddr T x z, ty, pos, aft, none⟩ :: r) s τ (M.chk (0 ≤ i ∧ i < (rows.length : Int)) m) := by
  refine X.chk fun hi => ?_
  have hn1 : (i.toNat : Int) = i := Int.toNat_of_nonneg hi.1
  exact X.op (OStep.idxG (P := Tryd.prog) (n := i.toNat) (o := ⟨d, .indexAddr T x z, ty, pos, aft, none⟩) rfl hx (by rw [hn1]; exact hz) (fits hT) hs (fits he) h1 (by omega)) ⟨hb, trivial⟩ rfl hd (h hi)
theorem X.ldG (nb : Nat) {rows : List (List Int)} {i : Int} {b : Nat} (hi : 0 ≤ i ∧ i < (rows.length : Int)) (h : TS N k all q r (s.eff d ⟨[(b, .gh (gridΦ e et rows none))], [nb], [(b, some (.gh (gridΦ e et rows (some i.toNat)))), (nb, some (.sl et 1 false ((atD rows i).map iRow)))], .w (.c (.mref nb))⟩) (some ⟨[(b, .gh (gridΦ e et rows none))], [nb], [(b, some (.gh (gridΦ e et rows (some i.toNat)))), (nb, some (.sl et 1 false ((atD rows i).map iRow)))], .w (.c (.mref nb))⟩ :: τ) m) (hx : s.ev x = .w (.c (.ptr b i.toNat 0)) := by exact rfl) (hb : lookH s.heap b = some (.gh (gridΦ e et rows none)) := by exact rfl) (hT : tys.get T = some yT := by exact rfl) (ha : yT.isAgg = false := by exact rfl) (hw : s.freshB k nb = true := by exact rfl) (hd : dstB N d = true := by exact rfl) : TS N k all q (⟨d, .load T x, ty, pos, aft, none⟩ :: r) s τ m :=
  X.op (OStep.ldG (P := Tryd.prog) (nb := nb) (o := ⟨d, .load T x, ty, pos, aft, none⟩) rfl hx (fits hT) ha (atD_get hi)) ⟨hb, trivial⟩ (by simpa using hw) hd h
theorem X.stG {rows : List (List Int)} {r' : List Int} {i : Int} {b c : Nat} (h : TS N k all q r (s.eff d ⟨[(b, .gh (gridΦ e et rows (some i.toNat))), (c, .sl et 1 false (r'.map iRow))], [], [(c, none), (b, some (.gh (gridΦ e et (setD rows i r') none)))], SV.any⟩) (some ⟨[(b, .gh (gridΦ e et rows (some i.toNat))), (c, .sl et 1 false (r'.map iRow))], [], [(c, none), (b, some (.gh (gridΦ e et (setD rows i r') none)))], SV.any⟩ :: τ) m) (hx : s.ev x = .w (.c (.ptr b i.toNat 0)) := by exact rfl) (hb : lookH s.heap b = some (.gh (gridΦ e et rows (some i.toNat))) := by exact rfl) (hz : s.ev z = .w (.c (.mref c)) := by exact rfl) (hc : lookH s.heap c = some (.sl et 1 false (r'.map iRow)) := by exact rfl) (hT : tys.get T = some yT := by exact rfl) (hl : yT.size = 1 := by exact rfl) (hne : Nat.beq c b = false := by exact rfl) (hd : dstB N d = true := by exact rfl) : TS N k all q (⟨d, .store T x z, ty, pos, aft, none⟩ :: r) s τ m :=
  X.op (OStep.stG (P := Tryd.prog) (o := ⟨d, .store T x z, ty, pos, aft, none⟩) rfl hx hz (fits hT) hl (fun q => by subst q; rw [Nat.beq_refl] at hne; cases hne)) ⟨hb, hc, trivial⟩ rfl hd h
end
/-- From now on it does not change. -/
theorem St.le_gtree {N k : Nat} (s : St) (t b : Nat) {e et : TypeId} {rows : List (List Int)} (h : lookS s.slots t = .w (.c (.mref b))) (hb : lookH s.heap b = some (.gh (gridΦ e et rows none))) : St.le N k s ⟨(t, tS (rows.map fun r => [.tree (r.map iRow)])) :: s.slots, setH s.heap b none⟩ := by
  rintro C w a hk ⟨η, F, hR⟩
  have hb' : s.hp b = some (.gh (gridΦ e et rows none)) := hb
  have hH := hR.heap.gfreeze hb'
  have he : lookH (setH s.heap b none) = hpSet s.hp b none := by funext c; rw [lookH_setH]; rfl
  have hst : ∀ c, Stays η η s.hp (hpSet s.hp b none) c := fun c => by
    by_cases hc : c = b
    · subst hc; exact .inl (hpSet_same _ _ _)
    · exact Stays.of_same (hpSet_other hc) rfl
  have hsl : ∀ t', SRep w (fun g => F g ∨ Own (η b) g) η (hpSet s.hp b none) (s.sl t') (a.tmps.getD t' undef) := fun t' => hR.heap.slot (hR.slots t') (fun _ h => .inl h) (fun _ _ => rfl) fun c => .inr (hst c)
  have hu : a.tmps.getD t undef = hdV (η b) := by
    have := hR.slots t
    have e0 : s.sl t = .w (.c (.mref b)) := h
    rw [e0] at this
    simp only [SRep, WRep, CRep, hb'] at this
    exact this
  refine ⟨η, fun g => F g ∨ Own (η b) g, hR.size, hR.defers, fun t' => ?_, ?_⟩
  · show SRep w _ η (lookH (setH s.heap b none)) (lookS ((t, tS (rows.map fun r => [.tree (r.map iRow)])) :: s.slots) t') _
    rw [he]
    unfold lookS
    split
    · rename_i hbq
      have hq := Nat.eq_of_beq_eq_true hbq
      subst hq
      rw [hu]
      obtain ⟨_, _, ⟨g, ins, cs, h4, l1, l2, l0, k3, k4, k5, k6, k7, k8⟩, _⟩ := hR.heap.blocks b _ hb'
      show Tr w _ (.tree (rows.map fun r => [.tree (r.map iRow)])) (hdV (η b))
      have hF : ∀ g', Own (η b) g' → (fun g => F g ∨ Own (η b) g) g' := fun g' hg' => .inr hg'
      generalize (fun g => F g ∨ Own (η b) g) = F' at hF ⊢
      rw [h4] at hF ⊢
      rw [hd_grid]
      have hrow : ∀ (i j : Nat) (row : List TV) (x : TV), (rows.map fun r => [TV.tree (r.map iRow)])[i]? = some row → row[j]? = some x → ∃ r v, rows[i]? = some r ∧ ins[i]? = some v ∧ cs[i]? = some v ∧ j = 0 ∧ x = .tree (r.map iRow) ∧ w.ownsRow 0 et 1 v r.length (r.map (Value.int .i64)) := fun i j row x hi hj => by
        rw [List.getElem?_map, Option.map_eq_some_iff] at hi
        obtain ⟨r, h1, rfl⟩ := hi
        have hil : i < rows.length := (List.getElem?_eq_some_iff.1 h1).1
        have hj0 : j = 0 := by
          have := (List.getElem?_eq_some_iff.1 hj).1
          simp at this; omega
        subst hj0
        simp only [List.getElem?_cons_zero, Option.some.injEq] at hj
        have hv := List.getElem?_eq_getElem (l := ins) (i := i) (by omega)
        obtain ⟨q1, q2⟩ := k5 i _ r hv h1 (by simp)
        exact ⟨r, _, h1, hv, q1, rfl, hj.symm, q2⟩
      have := Tr.tree (w := w) (F := F') (rows.map fun r => [.tree (r.map iRow)]) g 0 1 rows.length (fun i _ => cs[i]?.getD undef) (by simp) l0 (fun row hr => by obtain ⟨r, _, rfl⟩ := List.mem_map.1 hr; rfl) (hF g (own_grid.2 (.inl rfl))) (fun i j row x hi hj => ?_) (fun i j row x hi hj => ?_)
      · rw [List.length_map] at this; exact this
      · obtain ⟨r, v, _, _, h7, rfl, _, _⟩ := hrow i j row x hi hj
        rw [h7, cell_of_row w g _ _ _ _ k3]
        simpa using h7
      · obtain ⟨r, v, _, h6, h7, rfl, rfl, h8⟩ := hrow i j row x hi hj
        rw [h7]
        exact BRep.tree (η := fun _ => v) (hp := fun _ => none) (b := 0) (e := et) (sz := 1) (f := false) ⟨r.map (Value.int .i64), by rw [List.length_map]; exact h8, fun row' hr' => by obtain ⟨z, _, rfl⟩ := List.mem_map.1 hr'; rfl, fun i' j' row' x' hi' hj' => by
          rw [List.getElem?_map, Option.map_eq_some_iff] at hi'
          obtain ⟨z, hz1, rfl⟩ := hi'
          have hj0 : j' = 0 := by
            have := (List.getElem?_eq_some_iff.1 hj').1
            simp [iRow] at this; omega
          subst hj0
          simp only [iRow, List.getElem?_cons_zero, Option.some.injEq] at hj'
          subst hj'
          exact ⟨.int .i64 z, by rw [Nat.mul_one, Nat.add_zero, List.getElem?_map, hz1]; rfl, .int _ _⟩⟩ fun g' hg' => hF g' (own_grid.2 (.inr ⟨i, v, h6, hg'⟩))
    · exact hsl t'
  · show HRep C w η _ (lookH (setH s.heap b none))
    rw [he]; exact hH
end Go.Proofs.YtmefipdgohflmaaDoor
