/- States that say less: slots left out, blocks given up, frozen, renamed; nil slices taken as one's own. -/
import Derived.Test.YtjfkdjlmajfljaaDoorVm
namespace Go.Proofs.YtjfkdjlmajfljaaDoor
open Go.RowKit

section
variable {N k : Nat} {s : St}

/-- Only these slots. -/
def St.keep (s : St) (ks : List Nat) : St := ⟨ks.map fun t => (t, lookS s.slots t), s.heap⟩
theorem lookS_map (f : Nat → SV) : ∀ (ks : List Nat) (t : Nat), lookS (ks.map fun t => (t, f t)) t = f t ∨ lookS (ks.map fun t => (t, f t)) t = SV.any
  | [], _ => .inr rfl
  | a :: r, t => by
    simp only [List.map_cons]
    unfold lookS
    cases h : Nat.beq a t with
    | true => rw [Nat.eq_of_beq_eq_true h]; exact .inl rfl
    | false => exact lookS_map f r t
theorem St.le_slots {l : List (Nat × SV)} (h : ∀ t, lookS l t = lookS s.slots t ∨ lookS l t = SV.any) : St.le N k s ⟨l, s.heap⟩ := by
  rintro C w a _ ⟨η, F, hR⟩
  refine ⟨η, F, hR.size, hR.defers, fun t => ?_, hR.heap⟩
  rcases h t with h | h
  · show SRep w F η _ (lookS l t) _; rw [h]; exact hR.slots t
  · show SRep w F η _ (lookS l t) _; rw [h]; exact SRep.any _ _ _ _ _
theorem St.le_keep (s : St) (ks : List Nat) : St.le N k s (s.keep ks) := St.le_slots fun t => lookS_map (lookS s.slots) ks t

/-- A block of one's own is given up. -/
theorem St.le_drop (s : St) (b : Nat) (hb : k ≤ b) : St.le N k s ⟨s.slots, setH s.heap b none⟩ := by
  rintro C w a hk ⟨η, F, hR⟩
  have hH := hR.heap.drop (b := b) (by rw [hk]; exact hb)
  have e : (lookH (setH s.heap b none)) = hpSet s.hp b none := by funext c; rw [lookH_setH]; rfl
  refine ⟨η, F, hR.size, hR.defers, fun t => ?_, ?_⟩
  · show SRep w F η (lookH (setH s.heap b none)) _ _
    rw [e]
    refine hR.heap.slot (hR.slots t) (fun _ h => h) (fun _ _ => rfl) fun c => .inr ?_
    by_cases hc : c = b
    · subst hc; exact .inl (hpSet_same _ _ _)
    · exact Stays.of_same (hpSet_other hc) rfl
  · show HRep C w η F (lookH (setH s.heap b none))
    rw [e]; exact hH

/-- A slice of one's own is frozen. -/
theorem St.le_freeze (s : St) (b : Nat) {e : TypeId} {sz : Nat} {f : Bool} {rows : List (List TV)} (hb : lookH s.heap b = some (.sl e sz f rows)) : St.le N k s ⟨s.slots, setH s.heap b (some (.sl e sz true rows))⟩ := by
  rintro C w a hk ⟨η, F, hR⟩
  have hH := hR.heap.freeze (b := b) hb
  have he : (lookH (setH s.heap b (some (.sl e sz true rows)))) = hpSet s.hp b (some (.sl e sz true rows)) := by funext c; rw [lookH_setH]; rfl
  refine ⟨η, fun g => F g ∨ (η b).ownBlock = some g, hR.size, hR.defers, fun t => ?_, ?_⟩
  rotate_left
  · show HRep C w η _ (lookH (setH s.heap b (some (.sl e sz true rows))))
    rw [he]; exact hH
  · show SRep w _ η (lookH (setH s.heap b (some (.sl e sz true rows)))) _ _
    rw [he]
    refine hR.heap.slot (hR.slots t) (fun _ h => .inl h) (fun _ _ => rfl) fun c => .inr ?_
    by_cases hc : c = b
    · subst hc; exact .inr (.inl ⟨e, sz, f, rows, true, rows, hb, hpSet_same _ _ _, rfl⟩)
    · exact Stays.of_same (hpSet_other hc) rfl

/-! ### Cells seen otherwise -/
/-- What may be said of a cell instead: a nil slice is empty; a frozen slice does not change. -/
inductive ALe (h : List (Option Blk)) : AV → AV → Prop
  | refl (x : AV) : ALe h x x
  | nil : ALe h (.v .nil) (.v (.tree []))
  | froz (b : Nat) (e : TypeId) (sz : Nat) (rows : List (List TV)) (hb : lookH h b = some (.sl e sz true rows)) : ALe h (.mref b) (.v (.tree rows))
  | any (x : AV) : ALe h x .any
theorem ALe.rep {h : List (Option Blk)} {C : Ctx} {w : World} {η : Nat → Value} {F : Nat → Prop} (hH : HRep C w η F (lookH h)) {x y : AV} {u : Value} (hl : ALe h x y) (hr : CRep w F η (lookH h) x u) : CRep w F η (lookH h) y u := by
  cases hl with
  | refl => exact hr
  | nil =>
    have := Tr.nil_inv hr
    subst this
    exact Tr.empty none 0 (by simp [maxLen])
  | froz b e sz rows hb =>
    simp only [CRep, hb] at hr
    rw [hr]
    exact (hH.blocks b _ hb).tree fun g hg => hH.frzF b _ g hb rfl hg
  | any => trivial
inductive WLe (h : List (Option Blk)) : WV → WV → Prop
  | c {x y : AV} (hl : ALe h x y) : WLe h (.c x) (.c y)
  | agg {l m : List AV} (hn : l.length = m.length) (hl : ∀ (i : Nat) (x y : AV), l[i]? = some x → m[i]? = some y → ALe h x y) : WLe h (.agg l) (.agg m)
theorem WLe.rep {h : List (Option Blk)} {C : Ctx} {w : World} {η : Nat → Value} {F : Nat → Prop} (hH : HRep C w η F (lookH h)) {x y : WV} {u : Value} (hl : WLe h x y) (hr : WRep w F η (lookH h) x u) : WRep w F η (lookH h) y u := by
  cases hl with
  | c hl => exact hl.rep hH hr
  | agg hn hl =>
    obtain ⟨us, h1, h2, h3, h4⟩ := hr
    refine ⟨us, h1, by rw [h2, hn], h3, fun i y u hy hu => ?_⟩
    have hi : i < us.length := (List.getElem?_eq_some_iff.1 hu).1
    have hx := List.getElem?_eq_getElem (show i < _ by rw [← h2]; exact hi)
    exact (hl i _ y hx hy).rep hH (h4 i _ u hx hu)
/-- A slot seen otherwise. -/
theorem St.le_slot (s : St) (t : Nat) {x y : WV} (hx : lookS s.slots t = .w x) (hl : WLe s.heap x y) : St.le N k s ⟨(t, .w y) :: s.slots, s.heap⟩ := by
  rintro C w a _ ⟨η, F, hR⟩
  refine ⟨η, F, hR.size, hR.defers, fun t' => ?_, hR.heap⟩
  show SRep w F η _ (lookS ((t, .w y) :: s.slots) t') _
  unfold lookS
  cases h : Nat.beq t t' with
  | true =>
    have := Nat.eq_of_beq_eq_true h
    subst this
    have h1 := hR.slots t
    rw [show s.sl t = .w x from hx] at h1
    exact hl.rep hR.heap h1
  | false => exact hR.slots t'

/-- A nil slice is taken as a slice of one's own without elements. -/
theorem St.le_adopt (s : St) (t nb : Nat) (e : TypeId) (sz : Nat) (hx : lookS s.slots t = nS) (hf : s.freshB k nb = true) : St.le N k s ⟨(t, .w (.c (.mref nb))) :: s.slots, setH s.heap nb (some (.sl e sz false []))⟩ := by
  rintro C w a hk ⟨η, F, hR⟩
  obtain ⟨h1, h2, h3, h4⟩ := St.fresh hf
  have he : (lookH (setH s.heap nb (some (.sl e sz false [])))) = hpSet s.hp nb (some (.sl e sz false [])) := by funext c; rw [lookH_setH]; rfl
  have hst : ∀ c, c ≠ nb → Stays η (ηSet η nb (.slice none 0 0)) s.hp (hpSet s.hp nb (some (.sl e sz false []))) c := fun c hc => Stays.of_same (hpSet_other hc) (ηSet_other hc)
  have hH : HRep C w (ηSet η nb (.slice none 0 0)) F (hpSet s.hp nb (some (.sl e sz false []))) := hR.heap.new (fun _ _ => rfl) (Nat.le_refl _) rfl rfl rfl h1 h2 (by rw [hk]; exact h4) (fun g hg => by cases hg) rfl
    ⟨[], by rw [ηSet_same]; exact World.ownsRow_nil w 0 e sz, by simp, by simp⟩
  refine ⟨_, F, hR.size, hR.defers, fun t' => ?_, by show HRep C w _ F (lookH _); rw [he]; exact hH⟩
  show SRep w F _ (lookH _) (lookS ((t, .w (.c (.mref nb))) :: s.slots) t') _
  rw [he]
  unfold lookS
  cases h : Nat.beq t t' with
  | true =>
    have := Nat.eq_of_beq_eq_true h
    subst this
    have h5 := hR.slots t
    rw [show s.sl t = nS from hx] at h5
    have := Tr.nil_inv (show Tr w F .nil _ from h5)
    dsimp only
    simp only [SRep, WRep, CRep, hpSet_same, ηSet_same]
    exact this
  | false =>
    refine hR.heap.slot (hR.slots t') (fun _ h => h) (fun _ _ => rfl) fun c => ?_
    by_cases hc : c = nb
    · subst hc; exact .inl (h3 t')
    · exact .inr (hst c hc)

/-! ### Renaming -/
def AV.mv (nb b : Nat) : AV → AV
  | .mref c => match Nat.beq c nb with
    | true => .mref b
    | false => match Nat.beq c b with
      | true => .one
      | false => .mref c
  | .ptr c i o => match Nat.beq c nb with
    | true => .ptr b i o
    | false => match Nat.beq c b with
      | true => .one
      | false => .ptr c i o
  | x => x
def WV.mv (nb b : Nat) : WV → WV
  | .c a => .c (a.mv nb b)
  | .agg l => .agg (l.map (AV.mv nb b))
def SV.mv (nb b : Nat) : SV → SV
  | .w x => .w (x.mv nb b)
  | .tup l => .tup (l.map (WV.mv nb b))
def Blk.mv (nb b : Nat) : Blk → Blk
  | .bx e cells => .bx e (cells.map (AV.mv nb b))
  | k => k
def mvH (h : List (Option Blk)) (nb b : Nat) : List (Option Blk) := setH (setH (h.map (Option.map (Blk.mv nb b))) nb none) b ((lookH h nb).map (Blk.mv nb b))
def St.mv (s : St) (nb b : Nat) : St := ⟨s.slots.map fun p => (p.1, p.2.mv nb b), mvH s.heap nb b⟩

theorem lookH_map (f : Blk → Blk) : ∀ (h : List (Option Blk)) (c : Nat), lookH (h.map (Option.map f)) c = (lookH h c).map f
  | [], _ => rfl
  | _ :: _, 0 => rfl
  | _ :: r, c + 1 => lookH_map f r c
theorem lookS_mv (f : SV → SV) (hf : f SV.any = SV.any) : ∀ (l : List (Nat × SV)) (t : Nat), lookS (l.map fun p => (p.1, f p.2)) t = f (lookS l t)
  | [], _ => hf.symm
  | (a, v) :: r, t => by
    simp only [List.map_cons]
    unfold lookS
    cases Nat.beq a t with
    | true => rfl
    | false => exact lookS_mv f hf r t

theorem lookH_mvH (h : List (Option Blk)) (nb b c : Nat) : lookH (mvH h nb b) c = if c = b then (lookH h nb).map (Blk.mv nb b) else if c = nb then none else (lookH h c).map (Blk.mv nb b) := by
  unfold mvH
  rw [lookH_setH, lookH_setH, lookH_map]

section
variable {C : Ctx} {w : World} {η : Nat → Value} {F : Nat → Prop} {h : List (Option Blk)} {nb b : Nat}
theorem CRep.mv {x : AV} {u : Value} (hne : nb ≠ b) (hb : lookH h b = none) (hr : CRep w F η (lookH h) x u) : CRep w F (fun c => if c = b then η nb else η c) (lookH (mvH h nb b)) (x.mv nb b) u := by
  have key : ∀ c, c ≠ nb → c ≠ b → lookH (mvH h nb b) c = (lookH h c).map (Blk.mv nb b) := fun c h1 h2 => by rw [lookH_mvH, if_neg h2, if_neg h1]
  cases x with
  | mref c =>
    unfold AV.mv
    dsimp only
    cases h1 : Nat.beq c nb with
    | true =>
      have := Nat.eq_of_beq_eq_true h1
      subst this
      simp only [CRep, lookH_mvH, if_pos] at hr ⊢
      cases hc : lookH h c with
      | none => rw [hc] at hr; exact hr
      | some k => rw [hc] at hr; cases k <;> exact hr
    | false =>
      cases h2 : Nat.beq c b with
      | true =>
        have := Nat.eq_of_beq_eq_true h2
        subst this
        simp only [CRep, hb] at hr
        exact hr
      | false =>
        have n1 : c ≠ nb := fun e => by subst e; rw [Nat.beq_refl] at h1; cases h1
        have n2 : c ≠ b := fun e => by subst e; rw [Nat.beq_refl] at h2; cases h2
        simp only [CRep, key c n1 n2, if_neg n2] at hr ⊢
        cases hc : lookH h c with
        | none => rw [hc] at hr; exact hr
        | some k => rw [hc] at hr; cases k <;> exact hr
  | ptr c i o =>
    unfold AV.mv
    dsimp only
    cases h1 : Nat.beq c nb with
    | true =>
      have := Nat.eq_of_beq_eq_true h1
      subst this
      simp only [CRep, lookH_mvH, if_pos] at hr ⊢
      cases hc : lookH h c with
      | none => rw [hc] at hr; exact hr
      | some k => rw [hc] at hr; cases k <;> exact hr
    | false =>
      cases h2 : Nat.beq c b with
      | true =>
        have := Nat.eq_of_beq_eq_true h2
        subst this
        simp only [CRep, hb] at hr
        exact hr
      | false =>
        have n1 : c ≠ nb := fun e => by subst e; rw [Nat.beq_refl] at h1; cases h1
        have n2 : c ≠ b := fun e => by subst e; rw [Nat.beq_refl] at h2; cases h2
        simp only [CRep, key c n1 n2, if_neg n2] at hr ⊢
        cases hc : lookH h c with
        | none => rw [hc] at hr; exact hr
        | some k => rw [hc] at hr; cases k <;> exact hr
  | v t => exact hr
  | tptr row o => exact hr
  | one => exact hr
  | any => exact hr
theorem CsRep.mv {l : List AV} {us : List Value} (hne : nb ≠ b) (hb : lookH h b = none) (hr : CsRep w F η (lookH h) l us) : CsRep w F (fun c => if c = b then η nb else η c) (lookH (mvH h nb b)) (l.map (AV.mv nb b)) us := by
  refine ⟨by simpa using hr.1, hr.2.1, fun i x u hx hu => ?_⟩
  rw [List.getElem?_map, Option.map_eq_some_iff] at hx
  obtain ⟨z, h1, rfl⟩ := hx
  exact (hr.2.2 i z u h1 hu).mv hne hb
theorem WRep.mv {x : WV} {u : Value} (hne : nb ≠ b) (hb : lookH h b = none) (hr : WRep w F η (lookH h) x u) : WRep w F (fun c => if c = b then η nb else η c) (lookH (mvH h nb b)) (x.mv nb b) u := by
  cases x with
  | c a => exact CRep.mv hne hb hr
  | agg l => obtain ⟨us, h1, h2⟩ := hr; exact ⟨us, h1, h2.mv hne hb⟩
theorem SRep.mv {x : SV} {u : Value} (hne : nb ≠ b) (hb : lookH h b = none) (hr : SRep w F η (lookH h) x u) : SRep w F (fun c => if c = b then η nb else η c) (lookH (mvH h nb b)) (x.mv nb b) u := by
  cases x with
  | w x => exact WRep.mv hne hb hr
  | tup l =>
    obtain ⟨us, h1, h2, h3⟩ := hr
    refine ⟨us, h1, by simpa using h2, fun i x u hx hu => ?_⟩
    rw [List.getElem?_map, Option.map_eq_some_iff] at hx
    obtain ⟨z, h4, rfl⟩ := hx
    exact (h3 i z u h4 hu).mv hne hb
theorem BRep.mv {c c' : Nat} {kb : Blk} (hne : nb ≠ b) (hb : lookH h b = none) {η' : Nat → Value} (hη' : η' = fun c => if c = b then η nb else η c) (hc : η' c' = η c) (hr : BRep w F η (lookH h) c kb) : BRep w F η' (lookH (mvH h nb b)) c' (kb.mv nb b) := by
  cases kb with
  | sl e sz f rows => obtain ⟨cells, h1, h2⟩ := hr; exact ⟨cells, by rw [hc]; exact h1, h2⟩
  | bx e cells => obtain ⟨g, cs, h1, h2, h3⟩ := hr; exact ⟨g, cs, by rw [hc]; exact h1, h2, by rw [hη']; exact h3.mv hne hb⟩

theorem HRep.mv (hne : nb ≠ b) (hb : lookH h b = none) (hk1 : C.bs.length ≤ nb) (hk2 : C.bs.length ≤ b) (hH : HRep C w η F (lookH h)) : HRep C w (fun c => if c = b then η nb else η c) F (lookH (mvH h nb b)) := by
  have key : ∀ c kb, lookH (mvH h nb b) c = some kb → ∃ c' kb', lookH h c' = some kb' ∧ kb = kb'.mv nb b ∧ (c = b ∧ c' = nb ∨ c ≠ b ∧ c' = c ∧ c ≠ nb) := fun c kb hc => by
    rw [lookH_mvH] at hc
    split at hc
    · rename_i e
      rw [Option.map_eq_some_iff] at hc
      obtain ⟨kb', h1, h2⟩ := hc
      exact ⟨nb, kb', h1, h2.symm, .inl ⟨e, rfl⟩⟩
    · split at hc
      · cases hc
      · rename_i e1 e2
        rw [Option.map_eq_some_iff] at hc
        obtain ⟨kb', h1, h2⟩ := hc
        exact ⟨c, kb', h1, h2.symm, .inr ⟨e1, rfl, e2⟩⟩
  have hη : ∀ c c', (c = b ∧ c' = nb ∨ c ≠ b ∧ c' = c ∧ c ≠ nb) → (if c = b then η nb else η c) = η c' := fun c c' hcc => by
    rcases hcc with ⟨rfl, rfl⟩ | ⟨h1, rfl, _⟩
    · rw [if_pos rfl]
    · rw [if_neg h1]
  have hlive : ∀ kb : Blk, (kb.mv nb b).live = kb.live := fun kb => by cases kb <;> rfl
  refine ⟨fun c kb hc => ?_, fun c c2 kb kb2 g hc hc2 hne2 hl hl2 hg => ?_, fun c kb g hc hl hg => ?_, fun c kb g hc hl hg => ?_, hH.Flt, fun c kb g hc hl hg => ?_, fun j g hj => ?_, hH.keep, hH.Fbd, hH.amb⟩
  · obtain ⟨c', kb', h1, rfl, h3⟩ := key c kb hc
    exact BRep.mv hne hb rfl (hη c c' h3) (hH.blocks c' kb' h1)
  · obtain ⟨c', kb', h1, rfl, h3⟩ := key c kb hc
    obtain ⟨c2', kb2', h4, rfl, h6⟩ := key c2 kb2 hc2
    rw [hη c c' h3] at hg
    rw [hη c2 c2' h6]
    rw [hlive] at hl hl2
    have hcc : c' ≠ c2' := by
      rintro rfl
      rcases h3 with ⟨rfl, rfl⟩ | ⟨q1, rfl, q2⟩ <;> rcases h6 with ⟨rfl, q3⟩ | ⟨q4, q5, q6⟩
      · exact hne2 rfl
      · exact q6 q5.symm
      · exact q2 q3
      · exact hne2 q5
    exact hH.sep c' c2' kb' kb2' g h1 h4 hcc hl hl2 hg
  · obtain ⟨c', kb', h1, rfl, h3⟩ := key c kb hc
    rw [hη c c' h3] at hg
    rw [hlive] at hl
    exact hH.liveF c' kb' g h1 hl hg
  · obtain ⟨c', kb', h1, rfl, h3⟩ := key c kb hc
    rw [hη c c' h3] at hg
    rw [hlive] at hl
    exact hH.frzF c' kb' g h1 hl hg
  · obtain ⟨c', kb', h1, rfl, h3⟩ := key c kb hc
    rw [hη c c' h3] at hg
    rw [hlive] at hl
    have := hH.fresh c' kb' g h1 hl hg
    rcases h3 with ⟨rfl, rfl⟩ | ⟨q1, rfl, q2⟩
    · rcases this with h5 | h5
      · exact .inl ⟨h5.1, hk2⟩
      · rw [List.getElem?_eq_none (by omega)] at h5; cases h5
    · exact this
  · have hjl : j < C.bs.length := (List.getElem?_eq_some_iff.1 hj).1
    obtain ⟨⟨e, cells, h1⟩, h2⟩ := hH.bor j g hj
    have n1 : j ≠ b := by omega
    have n2 : j ≠ nb := by omega
    refine ⟨⟨e, cells.map (AV.mv nb b), by rw [lookH_mvH, if_neg n1, if_neg n2, h1]; rfl⟩, ?_⟩
    rw [if_neg n1]
    exact h2
end
/-- The block nb gets the number b, which nothing bears. -/
theorem St.le_mv (s : St) (nb b : Nat) (hne : nb ≠ b) (hb : lookH s.heap b = none) (hk1 : k ≤ nb) (hk2 : k ≤ b) : St.le N k s (s.mv nb b) := by
  rintro C w a hk ⟨η, F, hR⟩
  refine ⟨_, F, hR.size, hR.defers, fun t => ?_, HRep.mv hne hb (by rw [hk]; exact hk1) (by rw [hk]; exact hk2) hR.heap⟩
  show SRep w F _ _ (lookS (s.slots.map fun p => (p.1, p.2.mv nb b)) t) _
  rw [lookS_mv (SV.mv nb b) rfl]
  exact (hR.slots t).mv hne hb
end
#print axioms St.le_mv
end Go.Proofs.YtjfkdjlmajfljaaDoor
