/- A queue: a slice of ints of one's own that is cut at its beginning and grows at its end. -/
import Derived.Test.YtmefipdgohflmaaDoorGrid
import Derived.ArgAppend
set_option linter.unusedVariables false
set_option linter.unusedSectionVars false
set_option maxRecDepth 20000
namespace Go.Proofs.YtmefipdgohflmaaDoor
open Go.RowKit Q

def queΦ (l : List Int) : World → Value → Prop := fun w v => ∃ (g o c : Nat), v = .slice (some ⟨g, o, none⟩) l.length c ∧ l.length ≤ c ∧ c ≤ maxLen ∧ g < w.heap.size ∧
  (∀ (j : Nat) (z : Int), l[j]? = some z → w.cell? ⟨g, o + j, none⟩ = some (.int .i64 z)) ∧ ∀ j, j < c → (w.cell? ⟨g, o + j, none⟩).isSome = true ∧ w.frozen? ⟨g, o + j, none⟩ = false
theorem que_rep {w : World} {F : Nat → Prop} {η : Nat → Value} {hp : Hp} {b : Nat} {l : List Int} (h : queΦ l w (η b)) : BRep w F η hp b (.gh (queΦ l)) := by
  have h0 := h
  obtain ⟨g, o, c, h1, h2, h3, h4, h5, h6⟩ := h
  refine ⟨by rw [h1]; rfl, fun g' hg => ?_, h0, fun w' hw => ?_⟩
  · rw [h1] at hg
    have : some g = some g' := hg
    injection this with this; subst this; exact h4
  · have hb : w'.heap[g]? = w.heap[g]? := hw g (by rw [h1]; exact rfl)
    refine ⟨g, o, c, h1, h2, h3, ?_, fun j z hz => ?_, fun j hj => ?_⟩
    · rw [Array.getElem?_eq_getElem h4] at hb
      exact (Array.getElem?_eq_some_iff.1 hb).1
    · rw [World.cell?_of_block (w := w) (w' := w') (a := ⟨g, o + j, none⟩) hb]; exact h5 j z hz
    · rw [World.cell?_of_block (w := w) (w' := w') (a := ⟨g, o + j, none⟩) hb, World.frozen?_of_block (w := w) (w' := w') (a := ⟨g, o + j, none⟩) hb]; exact h6 j hj
theorem que_of_row {w : World} {e : TypeId} {v : Value} {l : List Int} (h : w.ownsRow 0 e 1 v l.length (l.map (Value.int .i64))) (h0 : 0 < l.length) : queΦ l w v := by
  rcases h.2 with ⟨_, h1⟩ | ⟨g, cap, cur, e1, _, e3, e4, e5, e6, e7⟩
  · omega
  · refine ⟨g, 0, cap, e1, e4, e5, (Array.getElem?_eq_some_iff.1 e3).1, fun j z hz => ?_, fun j hj => ?_⟩
    · rw [cell_of_row w g _ _ _ _ e3, Nat.zero_add]
      have hj : j < l.length := (List.getElem?_eq_some_iff.1 hz).1
      have : (cur.toList.take (l.length * 1))[j]? = some (.int .i64 z) := by rw [e7, List.getElem?_map, hz]; rfl
      rw [List.getElem?_take, if_pos (by omega)] at this
      simpa using this
    · rw [Nat.zero_add]
      refine ⟨?_, ?_⟩
      · rw [cell_of_row w g _ _ _ _ e3]
        rw [Array.getElem?_eq_getElem (by omega)]; rfl
      · simp [World.frozen?, e3]
section
variable {C : Ctx} {w w' : World} {η : Nat → Value} {F : Nat → Prop} {hp : Hp}
/-- A ghost block under another number: its own blocks of memory may have changed, and new ones may have come to it. -/
theorem HRep.gmove (h : HRep C w η F hp) {b nb : Nat} {k : Blk} {Φ' : World → Value → Prop} {v' : Value} (hb : hp b = some k) (hl : k.live = true) (hn : hp nb = none) (hu : UnmentB hp nb) (hbs : C.bs.length ≤ nb)
    (hblk : ∀ g, g < w.heap.size → ¬ Own (η b) g → w'.heap[g]? = w.heap[g]?) (hs : w.heap.size ≤ w'.heap.size) (ho : w'.os = w.os) (ht : w'.tape = w.tape) (hout : w'.output = w.output)
    (hv : ∀ g, Own v' g → Own (η b) g ∨ w.heap.size ≤ g) (hr : BRep w' F (ηSet η nb v') (hpSet (hpSet hp b none) nb (some (.gh Φ'))) nb (.gh Φ')) :
    HRep C w' (ηSet η nb v') F (hpSet (hpSet hp b none) nb (some (.gh Φ'))) ∧ (∀ g, F g → w'.heap[g]? = w.heap[g]?) ∧ (∀ c, c = nb ∨ Stays η (ηSet η nb v') hp (hpSet (hpSet hp b none) nb (some (.gh Φ'))) c) := by
  have hnb : nb ≠ b := by rintro rfl; rw [hb] at hn; cases hn
  have hFc : ∀ g, F g → w'.heap[g]? = w.heap[g]? := fun g hg => hblk g (h.Flt g hg) fun ho => h.liveF b _ g hb hl ho hg
  have hst : ∀ c, c ≠ nb → Stays η (ηSet η nb v') hp (hpSet (hpSet hp b none) nb (some (.gh Φ'))) c := fun c hc => by
    by_cases hcb : c = b
    · subst hcb; exact .inl (by rw [hpSet_other hc, hpSet_same])
    · exact Stays.of_same (by rw [hpSet_other hc, hpSet_other hcb]) (ηSet_other hc)
  refine ⟨?_, hFc, fun c => ?_⟩
  · refine h.step (fun c => c = b ∨ c = nb) (fun c hc => ?_) (fun c k1 g hc hk hl1 hgo => ?_) hs (fun _ h => h) hFc (fun c => ?_) (fun c k1 hc hk => ?_) (fun c c' k1 k2 g hc h1 h2 hne hl1 hl2 hgo => ?_) (fun _ _ _ _ _ _ h => .inl h)
      (fun c k1 g hc hk hl1 hgo hF => ?_) (fun c k1 g hc hk hl1 hgo => ?_) (fun g hgF => Nat.lt_of_lt_of_le (h.Flt g hgF) hs) (fun c k1 g hc hk hl1 hgo => ?_) (fun j v k1 hj hjg hk => ?_) ?_ h.Fbd
    · have h1 : c ≠ nb := fun e => hc (.inr e)
      have h2 : c ≠ b := fun e => hc (.inl e)
      exact ⟨by rw [hpSet_other h1, hpSet_other h2], ηSet_other h1⟩
    · have h2 : c ≠ b := fun e => hc (.inl e)
      exact hblk g (h.lt hk hgo) fun ho => h.sep c b k1 _ g hk hb h2 hl1 hl hgo ho
    · by_cases hc : c = nb
      · subst hc; exact .inl hu
      · exact .inr (hst c hc)
    · rcases hc with rfl | rfl
      · rw [hpSet_other (Ne.symm hnb), hpSet_same] at hk; cases hk
      · rw [hpSet_same] at hk; injection hk with hk; subst hk; exact hr
    · rcases hc with rfl | rfl
      · rw [hpSet_other (Ne.symm hnb), hpSet_same] at h1; cases h1
      · rw [ηSet_same] at hgo
        rw [ηSet_other (Ne.symm hne)]
        rw [hpSet_other (Ne.symm hne)] at h2
        by_cases hcb : c' = b
        · subst hcb; rw [hpSet_same] at h2; cases h2
        · rw [hpSet_other hcb] at h2
          intro hgo'
          rcases hv g hgo with h3 | h3
          · exact h.sep c' b k2 _ g h2 hb hcb hl2 hl hgo' h3
          · have := h.lt h2 hgo'; omega
    · rcases hc with rfl | rfl
      · rw [hpSet_other (Ne.symm hnb), hpSet_same] at hk; cases hk
      · rw [ηSet_same] at hgo
        rcases hv g hgo with h3 | h3
        · exact h.liveF b _ g hb hl h3 hF
        · have := h.Flt g hF; omega
    · rcases hc with rfl | rfl
      · rw [hpSet_other (Ne.symm hnb), hpSet_same] at hk; cases hk
      · rw [hpSet_same] at hk; injection hk with hk; subst hk; cases hl1
    · rcases hc with rfl | rfl
      · rw [hpSet_other (Ne.symm hnb), hpSet_same] at hk; cases hk
      · rw [ηSet_same] at hgo
        rcases hv g hgo with h3 | h3
        · rcases h.fresh b _ g hb hl h3 with h4 | h4
          · exact .inl ⟨h4.1, hbs⟩
          · exact .inr h4
        · exact .inl ⟨Nat.le_trans h.keep.size h3, hbs⟩
    · rcases hj with rfl | rfl
      · rw [hpSet_other (Ne.symm hnb), hpSet_same] at hk; cases hk
      · rw [List.getElem?_eq_none (by omega)] at hjg; cases hjg
    · refine ⟨ho.trans h.keep.os, ht.trans h.keep.tape, hout.trans h.keep.output, Nat.le_trans h.keep.size hs, fun k1 hk hkn => (hblk k1 (Nat.lt_of_lt_of_le hk h.keep.size) fun e => ?_).trans (h.keep.block k1 hk hkn)⟩
      rcases h.fresh b _ k1 hb hl e with h4 | h4
      · omega
      · exact hkn h4
  · by_cases hc : c = nb
    · exact .inl hc
    · exact .inr (hst c hc)
end
section
variable {P : Program} {o : Oper} {ev : Operand → SV} {t e : TypeId} {y ye : Ty} {l : List Int}
theorem OStep.lenQ {x : Operand} {T : TypeId} {b : Nat} (ho : o.op = .call { callee := .builtin .len, args := #[x], argTypes := #[T] }) (hx : ev x = .w (.c (.mref b))) (hy : TyFits P T y) (hs : y.shp = .slice e) : OStep P o ev ⟨[(b, .gh (queΦ l))], [], [], iS .i64 (l.length : Int)⟩ :=
  .pure fun C w η F sl hp N a hR hev hnd => by
    have hb : hp b = some (.gh (queΦ l)) := hnd (b, _) (by simp)
    have h1 := hR.eval x
    rw [hev x (by simp [ho, Op.operands, Call.operands]), hx] at h1
    simp only [SRep, WRep, CRep, hb] at h1
    obtain ⟨_, _, ⟨g, q, c, h3, _⟩, _⟩ := hR.heap.blocks b _ hb
    rw [h3] at h1
    refine ⟨.int .i64 l.length, ?_, .int _ _⟩
    unfold execOp; rw [ho]
    simp [resolve, invoke, builtin, Builtin.len_, run_underlying (hy.slice hs), h1, hdV, goInt]
theorem OStep.idxQ {x z : Operand} {b n : Nat} {k : IntKind} (ho : o.op = .indexAddr t x z) (hx : ev x = .w (.c (.mref b))) (hz : ev z = iS k (n : Int)) (hy : TyFits P t y) (hs : y.shp = .slice e) (hye : TyFits P e ye) (hsz : ye.size = 1) (hi : n < l.length) :
    OStep P o ev ⟨[(b, .gh (queΦ l))], [], [], .w (.c (.ptr b n 0))⟩ :=
  .pure fun C w η F sl hp N a hR hev hn => by
    have hb : hp b = some (.gh (queΦ l)) := hn (b, _) (by simp)
    have h1 := hR.eval x
    rw [hev x (by simp [ho, Op.operands]), hx] at h1
    simp only [SRep, WRep, CRep, hb] at h1
    have h2 := hR.int ((hev z (by simp [ho, Op.operands])).trans hz)
    obtain ⟨_, _, ⟨g, q, c, h3, _⟩, _⟩ := hR.heap.blocks b _ hb
    rw [h3] at h1
    refine ⟨.pointer (some ⟨g, q + n, none⟩), ?_, ?_⟩
    · unfold execOp; rw [ho]
      simp [Instr.indexAt, h1, hdV, h2, asIntOf, run_underlying (hy.slice hs), hye.run_size, hsz, hi, addr_add]
    · simp only [SRep, WRep, CRep, hb]
      exact ⟨g, q, l.length, c, by rw [h3]; rfl, by rw [Nat.add_zero]⟩
theorem OStep.ldQ {x : Operand} {b i : Nat} {z : Int} (ho : o.op = .load t x) (hx : ev x = .w (.c (.ptr b i 0))) (hy : TyFits P t y) (ha : y.isAgg = false) (hi : l[i]? = some z) : OStep P o ev ⟨[(b, .gh (queΦ l))], [], [], iS .i64 z⟩ :=
  .pure fun C w η F sl hp N a hR hev hn => by
    have hb : hp b = some (.gh (queΦ l)) := hn (b, _) (by simp)
    have h1 := hR.eval x
    rw [hev x (by simp [ho, Op.operands]), hx] at h1
    simp only [SRep, WRep, CRep, hb] at h1
    obtain ⟨g0, q0, n0, c0, h2, h3⟩ := h1
    obtain ⟨_, _, ⟨g, q, c, h4, _, _, _, h5, _⟩, _⟩ := hR.heap.blocks b _ hb
    rw [h4] at h2
    have h2' : Value.slice (some ⟨g, q, none⟩) l.length c = .slice (some ⟨g0, q0, none⟩) n0 c0 := h2
    injection h2' with h2'
    injection h2' with h2'
    injection h2' with h2a h2b
    subst h2a; subst h2b
    exact ⟨.int .i64 z, loadExec ho (by rw [h3, Nat.add_zero]) (run_loadOne hy ha (h5 i z hi)), .int _ _⟩
theorem OStep.sliceQ {x z : Operand} {b nb : Nat} {k : IntKind} {r : Nat} (ho : o.op = .slice t x (some z) none none) (hx : ev x = .w (.c (.mref b))) (hz : ev z = iS k (r : Int)) (hy : TyFits P t y) (hs : y.shp = .slice e) (hye : TyFits P e ye) (hsz : ye.size = 1) (hr : r ≤ l.length) :
    OStep P o ev ⟨[(b, .gh (queΦ l))], [nb], [(b, none), (nb, some (.gh (queΦ (l.drop r))))], .w (.c (.mref nb))⟩ :=
  .heap fun C w η F sl hp N a hR hev hnd hnew => by
    obtain ⟨hn, hu, hus, hbs⟩ := hnew nb (by simp)
    have hb : hp b = some (.gh (queΦ l)) := hnd (b, _) (by simp)
    have h1 := hR.eval x
    rw [hev x (by simp [ho, Op.operands]), hx] at h1
    simp only [SRep, WRep, CRep, hb] at h1
    obtain ⟨_, _, ⟨g, q, c, h3, h4, h5, h6, h7, h8⟩, _⟩ := hR.heap.blocks b _ hb
    rw [h3] at h1
    have h1' : a.eval x = .slice (some ⟨g, q, none⟩) l.length c := h1
    have hbd := run_bounds (P := P) (n := l.length) (c := c) (l := r) (r := l.length) (lo := some z) (hi := none) hR ⟨⟨k, hz⟩, rfl, hr, Nat.le_refl _⟩ h4 (fun z' hz' => hev z' (by injection hz' with hz'; subst hz'; simp [ho, Op.operands])) (fun z' hz' => by cases hz')
    have hrun0 := run_sliceT (P := P) hy hs hye (some ⟨g, q, none⟩) l.length c _ _ _ hbd
    simp only [Option.map_none] at hrun0
    have hrun : (execOp a.eval o).run P w = .ok (.value (sliced (some ⟨g, q, none⟩) r l.length c ye.size)) w := by
      unfold execOp; rw [ho]
      simp only [h1', Option.map_none, Sem.run_bind, hrun0, Result.andThen_ok]
      rfl
    have hv : ∃ q', sliced (some ⟨g, q, none⟩) r l.length c ye.size = .slice (some ⟨g, q', none⟩) (l.drop r).length (c - r) ∧ (r < c → q' = q + r) := by
      unfold sliced
      rw [List.length_drop, hsz]
      by_cases hcr : c = r
      · exact ⟨q, by rw [if_pos hcr], fun h => by omega⟩
      · exact ⟨q + r, by rw [if_neg hcr]; simp [addr_add], fun _ => rfl⟩
    obtain ⟨q', hv1, hv2⟩ := hv
    rw [hv1] at hrun
    have hΦ : queΦ (l.drop r) w (.slice (some ⟨g, q', none⟩) (l.drop r).length (c - r)) := by
      refine ⟨g, q', c - r, rfl, by rw [List.length_drop]; omega, by omega, h6, fun j z' hz' => ?_, fun j hj => ?_⟩
      · rw [List.getElem?_drop] at hz'
        have := h7 (r + j) z' hz'
        have hlt : r + j < l.length := (List.getElem?_eq_some_iff.1 hz').1
        rw [hv2 (by omega), Nat.add_assoc]; exact this
      · rw [hv2 (by omega), Nat.add_assoc]; exact h8 (r + j) (by omega)
    obtain ⟨s1, s2, s3⟩ := hR.heap.gmove (w' := w) (Φ' := queΦ (l.drop r)) (v' := .slice (some ⟨g, q', none⟩) (l.drop r).length (c - r)) hb rfl hn hu hbs (fun _ _ _ => rfl) (Nat.le_refl _) rfl rfl rfl
      (fun g' hg' => .inl (by rw [h3]; exact hg')) (que_rep (by rw [ηSet_same]; exact hΦ))
    refine ⟨_, w, _, F, .inl hrun, s1, fun _ h => h, s2, fun c' => (s3 c').imp (fun h => by subst h; exact hus) id, ?_⟩
    simp only [SRep, WRep, CRep, hpUpd, hpSet_same, ηSet_same, hdV]
/-- One more at the end. -/
theorem OStep.appQ {x z : Operand} {T : TypeId} {yT : Ty} {b nb : Nat} {n : Int} {need : List (Nat × Blk)} (ho : o.op = .call { callee := .builtin .append, args := #[x, z], argTypes := #[T, T] }) (hx : ev x = .w (.c (.mref b))) (hyT : TyFits P T yT) (hs : yT.shp = .slice e) (hye : TyFits P e ye) (hz : ye.zero.length = ye.size) (hsz : ye.size = 1) (hby : 0 < ye.bytes)
    (hsrc : SrcOf ev z ye.size [[.int .i64 n]] need) (hb : (l.length + 1) * ye.bytes ≤ 140737488355328) : OStep P o ev ⟨(b, .gh (queΦ l)) :: need, [nb], [(b, none), (nb, some (.gh (queΦ (l ++ [n]))))], .w (.c (.mref nb))⟩ :=
  .heap fun C w η F sl hp N a hR hev hnd hnew => by
    obtain ⟨hn, hu, hus, hbs⟩ := hnew nb (by simp)
    have hbb : hp b = some (.gh (queΦ l)) := hnd (b, _) (by simp)
    have h1 := hR.eval x
    rw [hev x (by simp [ho, Op.operands, Call.operands]), hx] at h1
    simp only [SRep, WRep, CRep, hbb] at h1
    obtain ⟨news, ad, c', e2, hl, _, htr, hone, hcell⟩ := hsrc.src (by omega) hR (hev z (by simp [ho, Op.operands, Call.operands])) (fun p hp' => hnd p (by simp [hp']))
    have hl1 : news.length = 1 := by rw [hl, hsz]; rfl
    obtain ⟨u, hu1⟩ : ∃ u, news = [u] := by
      match news, hl1 with
      | [u], _ => exact ⟨u, rfl⟩
    subst hu1
    obtain ⟨u', hu2, hu3⟩ := htr 0 0 [.int .i64 n] (.int .i64 n) rfl rfl
    have hun : u = .int .i64 n := by
      have : u = u' := by simpa using hu2
      rw [this]; exact Tr.int_inv hu3
    subst hun
    obtain ⟨g2, o2, rfl, hc2⟩ := hcell.resolve_left (by simp)
    have hnews : ∀ (j : Nat) (v : Value), [Value.int .i64 n][j]? = some v → w.cell? ((⟨g2, o2, none⟩ : Addr).add j) = some v := fun j v hv => by rw [addr_add]; exact hc2 j v hv
    obtain ⟨i, hi, hi1, hi2, hi3⟩ := hye.info
    obtain ⟨zv, hz1, hz2, _⟩ := hi3 (by intro h; rw [h] at hz; simp at hz; omega)
    have hzs : zv.cells.size = ye.size := by
      have := congrArg List.length hz2
      simp at this
      rw [this, hz]
    have ht := hyT.slice hs
    obtain ⟨_, _, ⟨g, q, c, h3, h4, h5, h6, h7, h8⟩, _⟩ := hR.heap.blocks b _ hbb
    rw [h3] at h1
    have e1 : a.eval x = .slice (some ⟨g, q, none⟩) l.length c := h1
    have key : ∃ v' w', (Builtin.append_ #[T, T] o.type #[.slice (some ⟨g, q, none⟩) l.length c, .slice (some ⟨g2, o2, none⟩) 1 c']).run P w = .ok v' w' ∧ queΦ (l ++ [n]) w' v' ∧ (∀ g', g' < w.heap.size → ¬ Own (η b) g' → w'.heap[g']? = w.heap[g']?) ∧ w.heap.size ≤ w'.heap.size ∧ w'.os = w.os ∧ w'.tape = w.tape ∧ w'.output = w.output ∧ (∀ g', Own v' g' → Own (η b) g' ∨ w.heap.size ≤ g') := by
      by_cases hroom : l.length + 1 ≤ c
      · have hcl := h8 l.length (by omega)
        have hr := run_append_room_cells (P := P) w T o.type e i ht hi g q l.length c ⟨g2, o2, none⟩ 1 c' [.int .i64 n] (by rw [hi1, hsz]; rfl) hnews hone hroom (fun j hj => by
          have : j = 0 := by simp at hj; omega
          subst this
          rw [hi1, hsz, Nat.mul_one, Nat.add_zero]; exact hcl.1) (fun j hj => by
          have : j = 0 := by simp at hj; omega
          subst this
          rw [hi1, hsz, Nat.mul_one, Nat.add_zero]; exact hcl.2)
        rw [hi1, hsz, Nat.mul_one] at hr
        have hw : w.setCells g (q + l.length) [.int .i64 n] = w.setCell ⟨g, q + l.length, none⟩ (.int .i64 n) := rfl
        rw [hw] at hr
        have hother : ∀ j, j ≠ l.length → (w.setCell ⟨g, q + l.length, none⟩ (.int .i64 n)).cell? ⟨g, q + j, none⟩ = w.cell? ⟨g, q + j, none⟩ := fun j hj => World.cell?_setCell_other w _ _ _ (by intro h; injection h with _ h; omega)
        have hsame : (w.setCell ⟨g, q + l.length, none⟩ (.int .i64 n)).cell? ⟨g, q + l.length, none⟩ = some (.int .i64 n) := World.cell?_setCell_same' w _ _ hcl.1
        refine ⟨_, _, hr, ⟨g, q, c, by simp, by simp; omega, h5, by simpa using h6, fun j z' hz' => ?_, fun j hj => ?_⟩, fun g' hg' hno => ?_, by simp, rfl, rfl, rfl, fun g' hg' => .inl (by rw [h3]; exact hg')⟩
        · by_cases hj : j = l.length
          · subst hj
            rw [List.getElem?_append_right (Nat.le_refl _), Nat.sub_self] at hz'
            injection hz' with hz'
            subst hz'
            exact hsame
          · have hjl : j < l.length := by
              have := (List.getElem?_eq_some_iff.1 hz').1
              simp at this; omega
            rw [List.getElem?_append_left hjl] at hz'
            rw [hother j hj]; exact h7 j z' hz'
        · refine ⟨?_, by rw [World.frozen?_setCell]; exact (h8 j hj).2⟩
          by_cases hj' : j = l.length
          · subst hj'; rw [hsame]; rfl
          · rw [hother j hj']; exact (h8 j hj).1
        · exact Below.heap_setCell w _ _ g' fun h => hno (by rw [h3, h]; exact rfl)
      · obtain ⟨v', w', hr, hO, hg⟩ := run_append_arg_grows (P := P) w T o.type e i zv ye.size ye.bytes ht hi hz1 hi1 hi2 hzs (by omega) ⟨g, q, none⟩ l.length c (l.map (Value.int .i64)) (by rw [hsz]; simp) (fun j v hv => by
          rw [List.getElem?_map, Option.map_eq_some_iff] at hv
          obtain ⟨z', hz', rfl⟩ := hv
          rw [addr_add]; exact h7 j z' hz') ⟨g2, o2, none⟩ 1 c' [.int .i64 n] (by rw [hsz]; rfl) hnews (by omega) (by
            have : (l.length + 1) * 1 ≤ (l.length + 1) * ye.bytes := Nat.mul_le_mul_left _ hby
            simp only [maxLen]; omega) hb
        rw [hsz] at hO
        have hO' : w'.ownsRow 0 e 1 v' (l ++ [n]).length ((l ++ [n]).map (Value.int .i64)) := by
          rw [List.length_append, List.map_append]; exact ownsRow_zero hO
        refine ⟨v', w', hr, que_of_row hO' (by simp), fun g' hg' _ => hg.block g' hg' (by simp), hg.size, hg.os, hg.tape, hg.output, fun g' hg' => .inr (own_sl hO hg').1⟩
    obtain ⟨v', w', hr, hΦ, k1, k2, k3, k4, k5, k6⟩ := key
    obtain ⟨s1, s2, s3⟩ := hR.heap.gmove (w' := w') (Φ' := queΦ (l ++ [n])) (v' := v') hbb rfl hn hu hbs k1 k2 k3 k4 k5 k6 (que_rep (by rw [ηSet_same]; exact hΦ))
    have hhd : hdV v' = v' := by obtain ⟨_, _, _, e, _⟩ := hΦ; rw [e]; rfl
    refine ⟨v', w', _, F, .inl (appExec ho e1 e2 hr), s1, fun _ h => h, s2, fun c' => (s3 c').imp (fun h => by subst h; exact hus) id, ?_⟩
    simp only [SRep, WRep, CRep, hpUpd, hpSet_same, ηSet_same, hhd]
end
section
variable {N k : Nat} {β : Type} {q : β → Po} {all r : List Oper} {s : St} {τ : List (Option Eff)} {d : Option Tmp} {ty : TypeId} {pos : String} {aft : Array Edge} {m : M β} {T e : TypeId} {yT ye : Ty} {kd : IntKind} {x z : Operand}
theorem X.lenQ {l : List Int} {b : Nat} (h : TS N k all q r (s.put d (iS .i64 (l.length : Int))) (some ⟨[(b, .gh (queΦ l))], [], [], iS .i64 (l.length : Int)⟩ :: τ) m) (hx : s.ev x = .w (.c (.mref b)) := by exact rfl) (hb : lookH s.heap b = some (.gh (queΦ l)) := by exact rfl) (hT : tys.get T = some yT := by exact rfl) (hs : yT.shp = .slice e := by exact rfl) (hd : dstB N d = true := by exact rfl) : TS N k all q (⟨d, .call { callee := .builtin .len, args := #[x], argTypes := #[T] }, ty, pos, aft, none⟩ :: r) s τ m :=
  X.op (OStep.lenQ (P := Tryd.prog) (o := ⟨d, .call { callee := .builtin .len, args := #[x], argTypes := #[T] }, ty, pos, aft, none⟩) rfl hx (fits hT) hs) ⟨hb, trivial⟩ rfl hd h
theorem X.idxQ {l : List Int} {i : Int} {b : Nat} (h : 0 ≤ i ∧ i < (l.length : Int) → TS N k all q r (s.put d (.w (.c (.ptr b i.toNat 0)))) (some ⟨[(b, .gh (queΦ l))], [], [], .w (.c (.ptr b i.toNat 0))⟩ :: τ) m) (hx : s.ev x = .w (.c (.mref b)) := by exact rfl) (hb : lookH s.heap b = some (.gh (queΦ l)) := by exact rfl) (hz : s.ev z = iS kd i := by exact rfl) (hT : tys.get T = some yT := by exact rfl) (hs : yT.shp = .slice e := by exact rfl) (he : tys.get e = some ye := by exact rfl) (h1 : ye.size = 1 := by exact rfl) (hd : dstB N d = true := by exact rfl) : TS N k all q (⟨d, .indexAddr T x z, ty, pos, aft, none⟩ :: r) s τ (M.chk (0 ≤ i ∧ i < (l.length : Int)) m) := by
  refine X.chk fun hi => ?_
  have hn1 : (i.toNat : Int) = i := Int.toNat_of_nonneg hi.1
  exact X.op (OStep.idxQ (P := Tryd.prog) (n := i.toNat) (o := ⟨d, .indexAddr T x z, ty, pos, aft, none⟩) rfl hx (by rw [hn1]; exact hz) (fits hT) hs (fits he) h1 (by omega)) ⟨hb, trivial⟩ rfl hd (h hi)
theorem X.ldQ {l : List Int} {i : Int} {b : Nat} (hi : 0 ≤ i ∧ i < (l.length : Int)) (h : TS N k all q r (s.put d (iS .i64 (atD l i))) (some ⟨[(b, .gh (queΦ l))], [], [], iS .i64 (atD l i)⟩ :: τ) m) (hx : s.ev x = .w (.c (.ptr b i.toNat 0)) := by exact rfl) (hb : lookH s.heap b = some (.gh (queΦ l)) := by exact rfl) (hT : tys.get T = some yT := by exact rfl) (ha : yT.isAgg = false := by exact rfl) (hd : dstB N d = true := by exact rfl) : TS N k all q (⟨d, .load T x, ty, pos, aft, none⟩ :: r) s τ m :=
  X.op (OStep.ldQ (P := Tryd.prog) (o := ⟨d, .load T x, ty, pos, aft, none⟩) rfl hx (fits hT) ha (atD_get hi)) ⟨hb, trivial⟩ rfl hd h
theorem X.sliceQ (nb : Nat) {l : List Int} {i : Int} {b : Nat} (h : 0 ≤ i ∧ i ≤ (l.length : Int) → TS N k all q r (s.eff d ⟨[(b, .gh (queΦ l))], [nb], [(b, none), (nb, some (.gh (queΦ (l.drop i.toNat))))], .w (.c (.mref nb))⟩) (some ⟨[(b, .gh (queΦ l))], [nb], [(b, none), (nb, some (.gh (queΦ (l.drop i.toNat))))], .w (.c (.mref nb))⟩ :: τ) m) (hx : s.ev x = .w (.c (.mref b)) := by exact rfl) (hb : lookH s.heap b = some (.gh (queΦ l)) := by exact rfl) (hz : s.ev z = iS kd i := by exact rfl) (hT : tys.get T = some yT := by exact rfl) (hs : yT.shp = .slice e := by exact rfl) (he : tys.get e = some ye := by exact rfl) (h1 : ye.size = 1 := by exact rfl) (hw : s.freshB k nb = true := by exact rfl) (hd : dstB N d = true := by exact rfl) : TS N k all q (⟨d, .slice T x (some z) none none, ty, pos, aft, none⟩ :: r) s τ (M.chk (0 ≤ i ∧ i ≤ (l.length : Int)) m) := by
  refine X.chk fun hi => ?_
  have hn1 : (i.toNat : Int) = i := Int.toNat_of_nonneg hi.1
  exact X.op (OStep.sliceQ (P := Tryd.prog) (nb := nb) (r := i.toNat) (o := ⟨d, .slice T x (some z) none none, ty, pos, aft, none⟩) rfl hx (by rw [hn1]; exact hz) (fits hT) hs (fits he) h1 (by omega)) ⟨hb, trivial⟩ (by simpa using hw) hd (h hi)
theorem X.appQ (nb : Nat) {l : List Int} {n : Int} {b c : Nat} {ec : TypeId} {fc : Bool} (h : l.length + ([n] : List Int).length < 1000000000000 → TS N k all q r (s.eff d ⟨[(b, .gh (queΦ l)), (c, .sl ec 1 fc (([n] : List Int).map iRow))], [nb], [(b, none), (nb, some (.gh (queΦ (l ++ [n]))))], .w (.c (.mref nb))⟩) (some ⟨[(b, .gh (queΦ l)), (c, .sl ec 1 fc (([n] : List Int).map iRow))], [nb], [(b, none), (nb, some (.gh (queΦ (l ++ [n]))))], .w (.c (.mref nb))⟩ :: τ) m) (hx : s.ev x = .w (.c (.mref b)) := by exact rfl) (hb : lookH s.heap b = some (.gh (queΦ l)) := by exact rfl) (hz : s.ev z = .w (.c (.mref c)) := by exact rfl) (hc : lookH s.heap c = some (.sl ec 1 fc (([n] : List Int).map iRow)) := by exact rfl) (hT : tys.get T = some yT := by exact rfl) (hs : yT.shp = .slice e := by exact rfl) (he : tys.get e = some ye := by exact rfl) (hzz : ye.zero.length = ye.size := by exact rfl) (h1 : ye.size = 1 := by exact rfl) (hby : Nat.ble ye.bytes 128 = true := by exact rfl) (hby0 : Nat.blt 0 ye.bytes = true := by exact rfl) (hw : s.freshB k nb = true := by exact rfl) (hd : dstB N d = true := by exact rfl) : TS N k all q (⟨d, .call { callee := .builtin .append, args := #[x, z], argTypes := #[T, T] }, ty, pos, aft, none⟩ :: r) s τ (M.chk (l.length + ([n] : List Int).length < 1000000000000) m) := by
  refine X.chk fun hi => ?_
  have h1' : ye.bytes ≤ 128 := Nat.le_of_ble_eq_true hby
  have h2 : (l.length + 1) * ye.bytes ≤ (l.length + 1) * 128 := Nat.mul_le_mul_left _ h1'
  simp only [List.length_singleton] at hi
  have hsrc : SrcOf s.ev z ye.size [[.int .i64 n]] [(c, .sl ec 1 fc (([n] : List Int).map iRow))] := by rw [h1]; exact SrcOf.own c ec fc _ hz
  exact X.op (OStep.appQ (P := Tryd.prog) (nb := nb) (n := n) (o := ⟨d, .call { callee := .builtin .append, args := #[x, z], argTypes := #[T, T] }, ty, pos, aft, none⟩) rfl hx (fits hT) hs (fits he) hzz h1 (by simpa [Nat.blt_eq] using hby0) hsrc (by omega)) ⟨hb, hc, trivial⟩ (by simpa using hw) hd (h (by simpa using hi))
end
/-- A slice of one's own that is not empty, taken as a queue. -/
theorem St.le_que {N k : Nat} (s : St) (t b nb : Nat) {e : TypeId} {l : List Int} (h : lookS s.slots t = .w (.c (.mref b))) (hb : lookH s.heap b = some (.sl e 1 false (l.map iRow))) (h0 : 0 < l.length) (hf : s.freshB k nb = true) : St.le N k s ⟨(t, .w (.c (.mref nb))) :: s.slots, setH (setH s.heap b none) nb (some (.gh (queΦ l)))⟩ := by
  rintro C w a hk ⟨η, F, hR⟩
  obtain ⟨h1, h2, h3, h4⟩ := St.fresh hf
  have hb' : s.hp b = some (.sl e 1 false (l.map iRow)) := hb
  obtain ⟨cells, hsl, _, hcells⟩ := hR.heap.blocks b _ hb'
  rw [List.length_map] at hsl
  have hceq : cells = l.map (Value.int .i64) := by
    refine List.ext_getElem (by rw [hsl.1, List.length_map, Nat.mul_one]) fun j h6 h7 => ?_
    have hj : j < l.length := by simpa using h7
    obtain ⟨u, h8, h9⟩ := hcells j 0 (iRow l[j]) (.int .i64 l[j]) (by rw [List.getElem?_map, List.getElem?_eq_getElem hj]; rfl) rfl
    rw [Nat.mul_one, Nat.add_zero, List.getElem?_eq_getElem h6] at h8
    injection h8 with h8
    rw [h8, Tr.int_inv h9, List.getElem_map]
  rw [hceq] at hsl
  have hΦ := que_of_row hsl h0
  have hhd : hdV (η b) = η b := by obtain ⟨_, _, _, q, _⟩ := hΦ; rw [q]; rfl
  obtain ⟨s1, s2, s3⟩ := hR.heap.gmove (w' := w) (Φ' := queΦ l) (v' := η b) hb' rfl h1 h2 (by rw [hk]; exact h4) (fun _ _ _ => rfl) (Nat.le_refl _) rfl rfl rfl (fun g' hg' => .inl hg') (que_rep (by rw [ηSet_same]; exact hΦ))
  have he : lookH (setH (setH s.heap b none) nb (some (.gh (queΦ l)))) = hpSet (hpSet s.hp b none) nb (some (.gh (queΦ l))) := by
    funext c
    rw [lookH_setH]
    unfold hpSet
    by_cases hc : c = nb
    · subst hc; simp
    · rw [if_neg hc, lookH_setH]
      simp only [hc, if_false]
      rfl
  refine ⟨ηSet η nb (η b), F, hR.size, hR.defers, fun t' => ?_, ?_⟩
  · show SRep w F (ηSet η nb (η b)) (lookH (setH (setH s.heap b none) nb _)) (lookS ((t, .w (.c (.mref nb))) :: s.slots) t') _
    rw [he]
    unfold lookS
    split
    · rename_i hbq
      have hq := Nat.eq_of_beq_eq_true hbq
      subst hq
      have h5 := hR.slots t
      have e0 : s.sl t = .w (.c (.mref b)) := h
      rw [e0] at h5
      simp only [SRep, WRep, CRep, hb'] at h5
      simp only [SRep, WRep, CRep, hpSet_same, ηSet_same]
      rw [h5, hhd]
    · refine hR.heap.slot (hR.slots t') (fun _ h => h) (fun _ _ => rfl) fun c => ?_
      rcases s3 c with rfl | q
      · exact .inl (h3 t')
      · exact .inr q
  · show HRep C w (ηSet η nb (η b)) F (lookH (setH (setH s.heap b none) nb _))
    rw [he]; exact s1
end Go.Proofs.YtmefipdgohflmaaDoor
