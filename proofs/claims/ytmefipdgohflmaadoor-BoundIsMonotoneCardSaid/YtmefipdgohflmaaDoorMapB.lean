/- Maps: the steps of a walk. -/
import Derived.Test.YtmefipdgohflmaaDoorMapA
import Derived.Test.YtmefipdgohflmaaDoorLg
set_option linter.unusedVariables false
set_option linter.unusedSectionVars false
set_option maxRecDepth 20000
namespace Go.Proofs.YtmefipdgohflmaaDoor
open Go.RowKit Go.MapKept Go.ChangeMaps Q

section
variable {C : Ctx} {w w' : World} {η : Nat → Value} {F : Nat → Prop} {hp : Hp}
/-- A ghost block is never a lent one. -/
theorem HRep.ghOwn (h : HRep C w η F hp) {b : Nat} {Φ : World → Value → Prop} (hb : hp b = some (.gh Φ)) : C.bs.length ≤ b := by
  refine Nat.le_of_not_lt fun hlt => ?_
  exact absurd (h.bor b _ _ (List.getElem?_eq_getElem hlt) hb).2 (by simp [Blk.isGh])
/-- A ghost block is turned: only its own blocks of memory have changed, and new ones may have come to it. -/
theorem HRep.gturn (h : HRep C w η F hp) {b : Nat} {Φ Φ' : World → Value → Prop} {v' : Value} (hb : hp b = some (.gh Φ))
    (hblk : ∀ g, g < w.heap.size → ¬ Own (η b) g → w'.heap[g]? = w.heap[g]?) (hs : w.heap.size ≤ w'.heap.size) (ho : w'.os = w.os) (ht : w'.tape = w.tape) (hout : w'.output = w.output)
    (hv : ∀ g, Own v' g → Own (η b) g ∨ w.heap.size ≤ g) (hd : hdV v' = hdV (η b)) (hr : BRep w' F (ηSet η b v') (hpSet hp b (some (.gh Φ'))) b (.gh Φ')) :
    HRep C w' (ηSet η b v') F (hpSet hp b (some (.gh Φ'))) ∧ (∀ g, F g → w'.heap[g]? = w.heap[g]?) ∧ (∀ c, Stays η (ηSet η b v') hp (hpSet hp b (some (.gh Φ'))) c) := by
  have hFc : ∀ g, F g → w'.heap[g]? = w.heap[g]? := fun g hg => hblk g (h.Flt g hg) fun ho => h.liveF b _ g hb rfl ho hg
  have hst : ∀ c, Stays η (ηSet η b v') hp (hpSet hp b (some (.gh Φ'))) c := fun c => by
    by_cases hc : c = b
    · subst hc; exact .inr (.inr (.inr ⟨Φ, Φ', hb, hpSet_same _ _ _, by rw [ηSet_same]; exact hd⟩))
    · exact Stays.of_same (hpSet_other hc) (ηSet_other hc)
  refine ⟨?_, hFc, hst⟩
  refine h.step (fun c => c = b) (fun c hc => ⟨hpSet_other hc, ηSet_other hc⟩) (fun c k g hc hk hl hgo => ?_) hs (fun _ h => h) hFc (fun c => .inr (hst c)) (fun c k hc hk => ?_) (fun c c' k1 k2 g hc h1 h2 hne hl1 hl2 hgo => ?_) (fun _ _ _ _ _ _ h => .inl h)
      (fun c k g hc hk hl hgo hF => ?_) (fun c k g hc hk hl hgo => ?_) (fun g hgF => Nat.lt_of_lt_of_le (h.Flt g hgF) hs) (fun c k g hc hk hl hgo => ?_) (fun j v k hj hjg hk => ?_) ?_ h.Fbd
  · exact hblk g (h.lt hk hgo) fun ho => h.sep c b k _ g hk hb hc hl rfl hgo ho
  · subst hc
    rw [hpSet_same] at hk; injection hk with hk; subst hk; exact hr
  · subst hc
    rw [ηSet_same] at hgo
    rw [ηSet_other (Ne.symm hne)]
    rw [hpSet_other (Ne.symm hne)] at h2
    intro hgo'
    rcases hv g hgo with h3 | h3
    · exact h.sep c c' _ k2 g hb h2 hne rfl hl2 h3 hgo'
    · have := h.lt h2 hgo'; omega
  · subst hc
    rw [ηSet_same] at hgo
    rcases hv g hgo with h3 | h3
    · exact h.liveF c _ g hb rfl h3 hF
    · have := h.Flt g hF; omega
  · subst hc; rw [hpSet_same] at hk; injection hk with hk; subst hk; cases hl
  · subst hc
    rw [ηSet_same] at hgo
    rcases hv g hgo with h3 | h3
    · exact h.fresh c _ g hb rfl h3
    · exact .inl ⟨Nat.le_trans h.keep.size h3, h.ghOwn hb⟩
  · subst hj
    exact absurd (h.bor j v _ hjg hb).2 (by simp [Blk.isGh])
  · refine ⟨ho.trans h.keep.os, ht.trans h.keep.tape, hout.trans h.keep.output, Nat.le_trans h.keep.size hs, fun k hk hkn => (hblk k (Nat.lt_of_lt_of_le hk h.keep.size) fun e => ?_).trans (h.keep.block k hk hkn)⟩
    rcases h.fresh b _ k hb rfl e with h4 | h4
    · omega
    · exact hkn h4
/-- A ghost block is given up: what it held does not change any more. -/
theorem HRep.gfreeze (h : HRep C w η F hp) {b : Nat} {Φ : World → Value → Prop} (hb : hp b = some (.gh Φ)) : HRep C w η (fun g => F g ∨ Own (η b) g) (hpSet hp b none) := by
  refine h.step (fun c => c = b) (fun c hc => ⟨hpSet_other hc, rfl⟩) (fun _ _ _ _ _ _ _ => rfl) (Nat.le_refl _) (fun _ h => .inl h) (fun _ _ => rfl) (fun c => ?_) (fun c k1 hc hk1 => ?_) ?_ ?_ ?_ ?_ ?_ ?_ ?_ h.keep ?_
  · by_cases hc : c = b
    · subst hc; exact .inr (.inl (hpSet_same _ _ _))
    · exact .inr (Stays.of_same (hpSet_other hc) rfl)
  · subst hc; rw [hpSet_same] at hk1; cases hk1
  · intro c c' k1 k2 g hc h1; subst hc; rw [hpSet_same] at h1; cases h1
  · intro c k1 g h1 hl hg hF
    by_cases hc : c = b
    · subst hc; rw [hpSet_same] at h1; cases h1
    · rw [hpSet_other hc] at h1
      rcases hF with hF | hF
      · exact .inl hF
      · exact (h.sep c b k1 _ g h1 hb hc hl rfl hg hF).elim
  · intro c k1 g hc h1; subst hc; rw [hpSet_same] at h1; cases h1
  · intro c k1 g hc h1; subst hc; rw [hpSet_same] at h1; cases h1
  · intro g hg
    rcases hg with hg | hg
    · exact h.Flt g hg
    · exact h.lt hb hg
  · intro c k1 g hc h1; subst hc; rw [hpSet_same] at h1; cases h1
  · intro j v k1 hj hg h1; subst hj; rw [hpSet_same] at h1; cases h1
  · intro g hg
    rcases hg with hg | hg
    · exact h.Fbd g hg
    · rcases h.fresh b _ g hb rfl hg with h1 | h1
      · exact .inr (.inl h1.1)
      · exact .inr (.inr h1)
end
/-- A block that is a map with these entries. -/
def mapΦ (L : List (Value × Value)) : World → Value → Prop := fun w v => ∃ r, v = .map (some r) ∧ w.heap[r]? = some (.map (mkEs L) L.length)
theorem mapΦ_rep {w : World} {F : Nat → Prop} {η : Nat → Value} {hp : Hp} {b r : Nat} {L : List (Value × Value)} (hη : η b = .map (some r)) (hh : w.heap[r]? = some (.map (mkEs L) L.length)) : BRep w F η hp b (.gh (mapΦ L)) := by
  refine ⟨by rw [hη]; rfl, fun g hg => ?_, ⟨r, hη, hh⟩, fun w' hw => ⟨r, hη, ?_⟩⟩
  · rw [hη] at hg
    have hg' : some r = some g := hg
    injection hg' with hg'
    subst hg'
    exact (Array.getElem?_eq_some_iff.1 hh).1
  · rw [hw r (by rw [hη])]; exact hh
/-- Whatever stands for this is this value. -/
def DetS (s : SV) (v : Value) : Prop := ∀ (w : World) (F : Nat → Prop) (η : Nat → Value) (hp : Hp) (u : Value), SRep w F η hp s u → u = v
theorem detI (k : IntKind) (n : Int) : DetS (iS k n) (.int k n) := fun _ _ _ _ _ h => Tr.int_inv h
theorem detB (b : Bool) : DetS (bS b) (.bool b) := fun _ _ _ _ _ h => Tr.bool_inv h
section
variable {P : Program} {o : Oper} {ev : Operand → SV} {t kt vt : TypeId} {κ α : Type} [DecidableEq κ] {ek : κ → Value} {f : α → Value} {l : List (κ × α)} {n : κ} {a d : α}
theorem OStep.makeMap {b : Nat} (ho : o.op = .makeMap t none) : OStep P o ev ⟨[], [b], [(b, some (.gh (mapΦ [])))], .w (.c (.mref b))⟩ :=
  .heap fun C w η F sl hp N a hR hev hnd hnew => by
    obtain ⟨hn, hu, hus, hbs⟩ := hnew b (by simp)
    have hb : ∀ g, g < w.heap.size → (w.alloc (.map #[] 0)).heap[g]? = w.heap[g]? := fun g hg => heap_alloc_old w _ hg
    refine ⟨.map (some w.heap.size), w.alloc (.map #[] 0), ηSet η b (.map (some w.heap.size)), F, .inl ?_, ?_, fun _ h => h, fun g hg => hb g (hR.heap.Flt g hg), fun c => ?_, ?_⟩
    · unfold execOp; rw [ho]
      simp only [Option.map_none, Sem.run_bind, run_makeMap, Result.andThen_ok]
      exact rfl
    · refine hR.heap.new hb (by simp) rfl rfl rfl hn hu hbs (fun g hg => ?_) rfl ?_
      · have hg' : some w.heap.size = some g := hg
        have := Option.some.inj hg'
        omega
      · exact mapΦ_rep (ηSet_same _ _ _) (heap_alloc_new w _)
    · by_cases hc : c = b
      · subst hc; exact .inl hus
      · exact .inr (Stays.of_same (hpSet_other hc) (ηSet_other hc))
    · simp only [SRep, WRep, CRep, hpUpd, hpSet_same, ηSet_same]; rfl
theorem OStep.mapUpd {m x v : Operand} {b : Nat} (ho : o.op = .mapUpdate t m x v) (ht : P.underlying t = some (.map kt vt)) (hk : KeyK P kt ek) (hm : ev m = .w (.c (.mref b))) (hx : DetS (ev x) (ek n)) (hv : DetS (ev v) (f a)) :
    OStep P o ev ⟨[(b, .gh (mapΦ (encM ek f l)))], [], [(b, some (.gh (mapΦ (encM ek f (putM l n a)))))], SV.any⟩ :=
  .heap fun C w η F sl hp N a' hR hev hnd hnew => by
    have hb : hp b = some (.gh (mapΦ (encM ek f l))) := hnd (b, _) (by simp)
    have e1 := hR.eval m
    rw [hev m (by simp [ho, Op.operands]), hm] at e1
    simp only [SRep, WRep, CRep, hb] at e1
    have e2 := hx _ _ _ _ _ (hev x (by simp [ho, Op.operands]) ▸ hR.eval x)
    have e3 := hv _ _ _ _ _ (hev v (by simp [ho, Op.operands]) ▸ hR.eval v)
    obtain ⟨_, h1, ⟨r, h2, h3⟩, _⟩ := hR.heap.blocks b _ hb
    rw [encM_length] at h3
    have e4 : a'.eval m = .map (some r) := by rw [e1, h2]; rfl
    have hrun := run_mapUpdate (a := a) (n := n) ht hk h3
    have hsame := heap_setBlock_same h3 (.map (mkEs (encM ek f (putM l n a))) (putM l n a).length)
    have hoth : ∀ {g : Nat}, g ≠ r → (setBlock w r (.map (mkEs (encM ek f (putM l n a))) (putM l n a).length)).heap[g]? = w.heap[g]? := fun hg => heap_setBlock_other h3 _ hg
    obtain ⟨q1, q2, q3⟩ := hR.heap.gturn (w' := setBlock w r (.map (mkEs (encM ek f (putM l n a))) (putM l n a).length)) (v' := η b) (Φ' := mapΦ (encM ek f (putM l n a))) hb
      (fun g _ hg => hoth fun e => hg (by rw [h2, e])) (by simp [setBlock]) rfl rfl rfl (fun g hg => .inl hg) rfl
      (mapΦ_rep (by rw [ηSet_same]; exact h2) (by rw [encM_length]; exact hsame))
    refine ⟨undef, _, _, F, .inr ⟨?_, rfl⟩, q1, fun _ h => h, q2, fun c => .inr (q3 c), SRep.any _ _ _ _ _⟩
    unfold execOp; rw [ho]
    simp only [e4, e2, e3, Sem.run_bind, hrun, Result.andThen_ok]
    rfl
theorem OStep.lookT {m x : Operand} {z : Value} (ho : o.op = .lookup t m x false) (ht : P.underlying t = some (.map kt vt)) (hk : KeyK P kt ek) (hz : (P.info? vt).bind (·.zero) = some (f d)) (hm : ev m = .w (.c (.v (.mp (encM ek f l))))) (hx : DetS (ev x) (ek n)) {T : α → TV} (hT : ∀ (w : World) (F : Nat → Prop) (a : α), Tr w F (T a) (f a)) :
    OStep P o ev ⟨[], [], [], .w (.c (.v (T (getM l n d))))⟩ :=
  .pure fun C w η F sl hp N a' hR hev hnd => by
    have e1 := hR.eval m
    rw [hev m (by simp [ho, Op.operands]), hm] at e1
    have e2 := hx _ _ _ _ _ (hev x (by simp [ho, Op.operands]) ▸ hR.eval x)
    have e3 : ∃ r, a'.eval m = .map (some r) ∧ w.heap[r]? = some (.map (mkEs (encM ek f l)) l.length) := by
      generalize a'.eval m = u at e1
      cases (show Tr w F (.mp (encM ek f l)) u from e1) with
      | mp _ r h1 h2 => exact ⟨r, rfl, by rw [encM_length] at h2; exact h2⟩
    obtain ⟨r, h1, h2⟩ := e3
    have hz' : (zeroValue vt).run P w = .ok (f d) w := by
      rw [Option.bind_eq_some_iff] at hz
      obtain ⟨i, h3, h4⟩ := hz
      simp [zeroValue, typeInfo, h3, h4]
    refine ⟨f (getM l n d), ?_, hT _ _ _⟩
    unfold execOp; rw [ho]
    simp only [h1, e2, Sem.run_bind, run_lookup (n := n) ht hk hz' rfl h2, Result.andThen_ok]
    rfl
end
section
variable {N k : Nat} {β : Type} {q : β → Po} {all r : List Oper} {s : St} {τ : List (Option Eff)} {d : Option Tmp} {ty : TypeId} {pos : String} {aft : Array Edge} {m : M β} {T kt vt : TypeId} {κ α : Type} [DecidableEq κ]
theorem X.mkM (nb : Nat) (h : TS N k all q r (s.eff d ⟨[], [nb], [(nb, some (.gh (mapΦ [])))], .w (.c (.mref nb))⟩) (some ⟨[], [nb], [(nb, some (.gh (mapΦ [])))], .w (.c (.mref nb))⟩ :: τ) m) (hw : s.freshB k nb = true := by exact rfl) (hd : dstB N d = true := by exact rfl) :
    TS N k all q (⟨d, .makeMap T none, ty, pos, aft, none⟩ :: r) s τ m :=
  X.op (OStep.makeMap (o := ⟨d, .makeMap T none, ty, pos, aft, none⟩) rfl) trivial (by simp [hw]) hd h
theorem X.mpU (b : Nat) {ek : κ → Value} {f : α → Value} (l : List (κ × α)) (n : κ) (a : α) {x y z : Operand} (hk : KeyK Tryd.prog kt ek) (ht : Tryd.prog.underlying T = some (.map kt vt)) (hy : DetS (s.ev y) (ek n)) (hz : DetS (s.ev z) (f a))
    (h : TS N k all q r (s.eff d ⟨[(b, .gh (mapΦ (encM ek f l)))], [], [(b, some (.gh (mapΦ (encM ek f (putM l n a)))))], SV.any⟩) (some ⟨[(b, .gh (mapΦ (encM ek f l)))], [], [(b, some (.gh (mapΦ (encM ek f (putM l n a)))))], SV.any⟩ :: τ) m)
    (hx : s.ev x = .w (.c (.mref b)) := by exact rfl) (hn : s.needOk [(b, .gh (mapΦ (encM ek f l)))] := by exact ⟨rfl, trivial⟩) (hd : dstB N d = true := by exact rfl) :
    TS N k all q (⟨d, .mapUpdate T x y z, ty, pos, aft, none⟩ :: r) s τ m :=
  X.op (OStep.mapUpd (o := ⟨d, .mapUpdate T x y z, ty, pos, aft, none⟩) rfl ht hk hx hy hz) hn rfl hd h
theorem X.mpL {ek : κ → Value} {f : α → Value} (l : List (κ × α)) (n : κ) (d0 : α) (TT : α → TV) {x y : Operand} (hk : KeyK Tryd.prog kt ek) (ht : Tryd.prog.underlying T = some (.map kt vt)) (hz : (Tryd.prog.info? vt).bind (·.zero) = some (f d0)) (hT : ∀ (w : World) (F : Nat → Prop) (a : α), Tr w F (TT a) (f a)) (hy : DetS (s.ev y) (ek n))
    (h : TS N k all q r (s.put d (.w (.c (.v (TT (getM l n d0)))))) (some ⟨[], [], [], .w (.c (.v (TT (getM l n d0))))⟩ :: τ) m)
    (hx : s.ev x = .w (.c (.v (.mp (encM ek f l)))) := by exact rfl) (hd : dstB N d = true := by exact rfl) :
    TS N k all q (⟨d, .lookup T x y false, ty, pos, aft, none⟩ :: r) s τ m :=
  X.op (OStep.lookT (o := ⟨d, .lookup T x y false, ty, pos, aft, none⟩) (z := undef) rfl ht hk hz hx hy hT) trivial rfl hd h
end
theorem putA_at : ∀ {l : List AV} {n : Nat} {x y : AV}, l[n]? = some x → (putA l n y)[n]? = some y
  | [], _, _, _, h => by simp at h
  | _ :: _, 0, _, _, _ => rfl
  | _ :: r, n + 1, x, y, h => by
    simp only [putA, List.getElem?_cons_succ] at h ⊢
    exact putA_at (l := r) h
theorem putA_else : ∀ {l : List AV} {n i : Nat} {y : AV}, i ≠ n → (putA l n y)[i]? = l[i]?
  | [], _, _, _, _ => rfl
  | _ :: _, 0, 0, _, h => absurd rfl h
  | _ :: _, 0, i + 1, _, _ => rfl
  | _ :: r, n + 1, 0, _, _ => rfl
  | _ :: r, n + 1, i + 1, y, h => by
    simp only [putA, List.getElem?_cons_succ]
    exact putA_else (l := r) (by omega)
/-- A map of one's own in a cell of a variable: from now on it does not change. -/
theorem St.le_mcell {N k : Nat} (s : St) (b n c : Nat) {e : TypeId} {cells : List AV} {L : List (Value × Value)} (hne : Nat.beq b c = false) (hb : lookH s.heap b = some (.bx e cells)) (hx : cells[n]? = some (.mref c)) (hc : lookH s.heap c = some (.gh (mapΦ L))) : St.le N k s ⟨s.slots, setH (setH s.heap c none) b (some (.bx e (putA cells n (.v (.mp L)))))⟩ := by
  have hbc : b ≠ c := fun e => by subst e; rw [Nat.beq_refl] at hne; cases hne
  rintro C w a hk ⟨η, F, hR⟩
  have hc' : s.hp c = some (.gh (mapΦ L)) := hc
  have hb' : s.hp b = some (.bx e cells) := hb
  obtain ⟨_, _, ⟨r, h2, h3⟩, _⟩ := hR.heap.blocks c _ hc'
  obtain ⟨g, cs, q1, q2, q3⟩ := hR.heap.blocks b _ hb'
  have hH := hR.heap.gfreeze hc'
  have hst0 : ∀ i, Stays η η s.hp (hpSet s.hp c none) i := fun i => by
    by_cases hi : i = c
    · subst hi; exact .inl (hpSet_same _ _ _)
    · exact Stays.of_same (hpSet_other hi) rfl
  have hpb : hpSet s.hp c none b = some (.bx e cells) := by rw [hpSet_other hbc]; exact hb'
  have q4 : CsRep w (fun g => F g ∨ Own (η c) g) η (hpSet s.hp c none) (putA cells n (.v (.mp L))) cs := by
    refine ⟨by rw [putA_length]; exact q3.1, q3.2.1, fun i y u hy hu => ?_⟩
    have hi : i < cells.length := by rw [← putA_length cells n (.v (.mp L))]; exact (List.getElem?_eq_some_iff.1 hy).1
    have hx0 := List.getElem?_eq_getElem hi
    by_cases hin : i = n
    · subst hin
      rw [putA_at hx] at hy
      injection hy with hy
      subst hy
      have := q3.2.2 i _ u hx hu
      simp only [CRep, hc'] at this
      rw [this, h2]
      exact Tr.mp L r (.inr rfl) h3
    · rw [putA_else hin] at hy
      exact (q3.2.2 i y u hy hu).keep (fun _ h => .inl h) (fun _ _ => rfl) hR.heap.oneη fun i _ => hst0 i
  have hst2 : Stays η η (hpSet s.hp c none) (hpSet (hpSet s.hp c none) b (some (.bx e (putA cells n (.v (.mp L)))))) b := .inr (.inr (.inl ⟨e, cells, _, hpb, hpSet_same _ _ _, rfl⟩))
  have hsta : ∀ i, Stays η η (hpSet s.hp c none) (hpSet (hpSet s.hp c none) b (some (.bx e (putA cells n (.v (.mp L)))))) i := fun i => by
    by_cases hi : i = b
    · subst hi; exact hst2
    · exact Stays.of_same (hpSet_other hi) rfl
  have hH2 := hH.write (b := b) (k' := .bx e (putA cells n (.v (.mp L)))) hpb rfl rfl (by rw [q1]; rfl) hst2 (fun _ _ _ => ⟨_, _, rfl⟩) (fun _ _ => rfl) rfl rfl rfl rfl
    ⟨g, cs, q1, q2, csRep_new hH q4 (fun _ _ => rfl) fun i _ => hsta i⟩
  have he : (lookH (setH (setH s.heap c none) b (some (.bx e (putA cells n (.v (.mp L))))))) = hpSet (hpSet s.hp c none) b (some (.bx e (putA cells n (.v (.mp L))))) := by
    funext i
    rw [lookH_setH]
    unfold hpSet
    by_cases hi : i = b
    · subst hi; simp
    · rw [if_neg hi, lookH_setH]
      simp only [hi, if_false]
      rfl
  refine ⟨η, fun g => F g ∨ Own (η c) g, hR.size, hR.defers, fun t => ?_, ?_⟩
  · show SRep w _ η (lookH (setH (setH s.heap c none) b _)) _ _
    rw [he]
    exact hH.slot (hR.heap.slot (F' := fun g => F g ∨ Own (η c) g) (hR.slots t) (fun _ h => .inl h) (fun _ _ => rfl) fun i => .inr (hst0 i)) (fun _ h => h) (fun _ _ => rfl) fun i => .inr (hsta i)
  · show HRep C w η _ (lookH (setH (setH s.heap c none) b _))
    rw [he]; exact hH2
end Go.Proofs.YtmefipdgohflmaaDoor
