/- How a heap of abstract blocks goes on: one law for all steps. No program in sight. -/
import Derived.Test.YtjfkdjlmajfljaaDoorVal
namespace Go.Proofs.YtjfkdjlmajfljaaDoor
open Go.RowKit

abbrev Stays (η η' : Nat → Value) (hp hp' : Hp) (b : Nat) : Prop :=
  hp' b = none ∨ (∃ e sz f rows f' rows', hp b = some (.sl e sz f rows) ∧ hp' b = some (.sl e sz f' rows') ∧ η' b = η b) ∨ (∃ e cs cs', hp b = some (.bx e cs) ∧ hp' b = some (.bx e cs') ∧ η' b = η b)

theorem Stays.of_same {η η' : Nat → Value} {hp hp' : Hp} {b : Nat} (h1 : hp' b = hp b) (h2 : η' b = η b) : Stays η η' hp hp' b := by
  cases h : hp b with
  | none => exact .inl (by rw [h1, h])
  | some k =>
    cases k with
    | sl e sz f rows => exact .inr (.inl ⟨e, sz, f, rows, f, rows, by first | rfl | exact h, by rw [h1, h], h2⟩)
    | bx e cs => exact .inr (.inr ⟨e, cs, cs, by first | rfl | exact h, by rw [h1, h], h2⟩)

def UnmentB (hp : Hp) (c : Nat) : Prop := ∀ b e cells, hp b = some (.bx e cells) → cells.any (AV.ment c) = false
def UnmentS (sl : Sl) (c : Nat) : Prop := ∀ t, (sl t).ment c = false

theorem cell_keep {w w' : World} {g : Nat} (h : w'.heap[g]? = w.heap[g]?) (o : Nat) (v : Value) (hc : w.cell? ⟨g, o, none⟩ = some v) : w'.cell? ⟨g, o, none⟩ = some v := by
  rw [World.cell?_of_block (w := w) (w' := w') (a := ⟨g, o, none⟩) h]; exact hc

section
variable {C : Ctx} {w w' : World} {η η' : Nat → Value} {F F' : Nat → Prop} {hp hp' : Hp}

theorem BRep.keep {b : Nat} {k : Blk} (h : BRep w F η hp b k) (hη : η' b = η b) (hg : ∀ g, (η b).ownBlock = some g → w'.heap[g]? = w.heap[g]?) (hF : ∀ g, F g → F' g) (hFc : ∀ g, F g → w'.heap[g]? = w.heap[g]?)
    (ho : ∀ b k, hp b = some k → ∀ e sz f rows, k = .sl e sz f rows → (η b).oneCell' = true)
    (hm : ∀ e cells, k = .bx e cells → ∀ c, cells.any (AV.ment c) = true → Stays η η' hp hp' c) : BRep w' F' η' hp' b k := by
  cases k with
  | sl e sz f rows =>
    obtain ⟨cells, h1, h2, h3⟩ := h
    refine ⟨cells, ?_, h2, fun i j row x hi hj => ?_⟩
    · rw [hη]
      refine ⟨h1.1, ?_⟩
      rcases h1.2 with ⟨e1, e2⟩ | ⟨g, cap, cur, e1, e2, e3, e4⟩
      · exact .inl ⟨e1, e2⟩
      · exact .inr ⟨g, cap, cur, e1, e2, by rw [hg g (by rw [e1]; rfl)]; exact e3, e4⟩
    · obtain ⟨u, e1, e2⟩ := h3 i j row x hi hj
      exact ⟨u, e1, e2.keep hF fun g hg o v => cell_keep (hFc g hg) o v⟩
  | bx e cells =>
    obtain ⟨g, cs, h1, h2, h3⟩ := h
    exact ⟨g, cs, by rw [hη]; exact h1, by rw [hg g (by rw [h1]; rfl)]; exact h2, h3.keep hF (fun g hg o v => cell_keep (hFc g hg) o v) ho (hm e cells rfl)⟩

theorem HRep.step (h : HRep C w η F hp) (T : Nat → Prop) (hsame : ∀ b, ¬ T b → hp' b = hp b ∧ η' b = η b)
    (hblk : ∀ b k g, ¬ T b → hp b = some k → k.live = true → (η b).ownBlock = some g → w'.heap[g]? = w.heap[g]?)
    (hF : ∀ g, F g → F' g) (hFc : ∀ g, F g → w'.heap[g]? = w.heap[g]?)
    (hst : ∀ c, UnmentB hp c ∨ Stays η η' hp hp' c)
    (hT : ∀ b k, T b → hp' b = some k → BRep w' F' η' hp' b k)
    (hsep : ∀ b b' k k' g, T b → hp' b = some k → hp' b' = some k' → b ≠ b' → k.live = true → k'.live = true → (η' b).ownBlock = some g → (η' b').ownBlock ≠ some g)
    (hlF : ∀ b k g, hp' b = some k → k.live = true → (η' b).ownBlock = some g → F' g → F g ∨ False)
    (hTF : ∀ b k g, T b → hp' b = some k → k.live = true → (η' b).ownBlock = some g → ¬ F' g)
    (hfF : ∀ b k g, T b → hp' b = some k → k.live = false → (η' b).ownBlock = some g → F' g)
    (hFlt : ∀ g, F' g → g < w'.heap.size)
    (hfresh : ∀ b k g, T b → hp' b = some k → k.live = true → (η' b).ownBlock = some g → (C.W.heap.size ≤ g ∧ C.bs.length ≤ b) ∨ C.bs[b]? = some g)
    (hbor : ∀ (j g : Nat), T j → C.bs[j]? = some g → (∃ e cells, hp' j = some (.bx e cells)) ∧ (η' j).ownBlock = some g)
    (hkeep : Kept C w') (hFbd : ∀ g, F' g → C.F0 g ∨ C.W.heap.size ≤ g) : HRep C w' η' F' hp' := by
  classical
  have hnm : ∀ b e cells, ¬ T b → hp b = some (.bx e cells) → ∀ c, cells.any (AV.ment c) = true → Stays η η' hp hp' c := by
    intro b e cells _ hb c hc
    rcases hst c with h1 | h1
    · rw [h1 b e cells hb] at hc; cases hc
    · exact h1
  refine ⟨fun b k hb => ?_, fun b b' k k' g hb hb' hne hl hl' hg => ?_, fun b k g hb hl hg => ?_, fun b k g hb hl hg => ?_, hFlt, fun b k g hb hl hg => ?_, fun j g hj => ?_, hkeep, hFbd, h.amb⟩
  · by_cases hTb : T b
    · exact hT b k hTb hb
    · obtain ⟨h1, h2⟩ := hsame b hTb
      rw [h1] at hb
      refine (h.blocks b k hb).keep h2 (fun g hg => ?_) hF hFc h.oneη (fun e cells hk => hnm b e cells hTb (by rw [hb, hk]))
      cases hl : k.live with
      | true => exact hblk b k g hTb hb hl hg
      | false => exact hFc g (h.frzF b k g hb hl hg)
  · by_cases hTb : T b
    · exact hsep b b' k k' g hTb hb hb' hne hl hl' hg
    · by_cases hTb' : T b'
      · intro hg'
        exact hsep b' b k' k g hTb' hb' hb (Ne.symm hne) hl' hl hg' hg
      · obtain ⟨h1, h2⟩ := hsame b hTb
        obtain ⟨h3, h4⟩ := hsame b' hTb'
        rw [h1] at hb; rw [h3] at hb'; rw [h2] at hg; rw [h4]
        exact h.sep b b' k k' g hb hb' hne hl hl' hg
  · by_cases hTb : T b
    · exact hTF b k g hTb hb hl hg
    · obtain ⟨h1, h2⟩ := hsame b hTb
      intro hF'
      have := hlF b k g hb hl hg hF'
      rw [h1] at hb; rw [h2] at hg
      exact h.liveF b k g hb hl hg (this.resolve_right id)
  · by_cases hTb : T b
    · exact hfF b k g hTb hb hl hg
    · obtain ⟨h1, h2⟩ := hsame b hTb
      rw [h1] at hb; rw [h2] at hg
      exact hF g (h.frzF b k g hb hl hg)
  · by_cases hTb : T b
    · exact hfresh b k g hTb hb hl hg
    · obtain ⟨h1, h2⟩ := hsame b hTb
      rw [h1] at hb; rw [h2] at hg
      exact h.fresh b k g hb hl hg
  · by_cases hTj : T j
    · exact hbor j g hTj hj
    · obtain ⟨h1, h2⟩ := hsame j hTj
      rw [h1, h2]
      exact h.bor j g hj

theorem HRep.slot {x : SV} {u : Value} (h : HRep C w η F hp) (hx : SRep w F η hp x u) (hF : ∀ g, F g → F' g) (hFc : ∀ g, F g → w'.heap[g]? = w.heap[g]?)
    (hst : ∀ c, x.ment c = false ∨ Stays η η' hp hp' c) : SRep w' F' η' hp' x u :=
  hx.keep hF (fun g hg o v => cell_keep (hFc g hg) o v) h.oneη fun c hc => (hst c).resolve_left (by rw [hc]; simp)

/-! ### Single steps -/

/-- A world in which no known block has turned. -/
theorem HRep.world (h : HRep C w η F hp) (hb : ∀ g, g < w.heap.size → w'.heap[g]? = w.heap[g]?) (hs : w.heap.size ≤ w'.heap.size) (ho : w'.os = w.os) (ht : w'.tape = w.tape) (hout : w'.output = w.output) : HRep C w' η F hp := by
  have hlt : ∀ b k g, hp b = some k → (η b).ownBlock = some g → g < w.heap.size := fun b k g hk hg => by
    have := h.blocks b k hk
    cases k with
    | sl e sz f rows => obtain ⟨cells, h1, _⟩ := this; exact (h1.lt g hg).2
    | bx e cells =>
      obtain ⟨g', cs, h1, h2, _⟩ := this
      rw [h1] at hg
      simp only [Value.ownBlock, Option.some.injEq] at hg
      subst hg
      exact (Array.getElem?_eq_some_iff.1 h2).1
  exact h.step (fun _ => False) (fun _ _ => ⟨rfl, rfl⟩) (fun b k g _ hk _ hg => hb g (hlt b k g hk hg)) (fun _ h => h) (fun g hg => hb g (h.Flt g hg)) (fun c => .inr (Stays.of_same rfl rfl))
    (fun _ _ h => h.elim) (fun _ _ _ _ _ h => h.elim) (fun _ _ _ _ _ _ h => .inl h) (fun _ _ _ h => h.elim) (fun _ _ _ h => h.elim) (fun g hg => Nat.lt_of_lt_of_le (h.Flt g hg) hs) (fun _ _ _ h => h.elim) (fun _ _ h => h.elim)
    ⟨ho.trans h.keep.os, ht.trans h.keep.tape, hout.trans h.keep.output, Nat.le_trans h.keep.size hs, fun k hk hn => (hb k (Nat.lt_of_lt_of_le hk h.keep.size)).trans (h.keep.block k hk hn)⟩ h.Fbd

theorem HRep.lt (h : HRep C w η F hp) {b : Nat} {k : Blk} {g : Nat} (hk : hp b = some k) (hg : (η b).ownBlock = some g) : g < w.heap.size := by
  have := h.blocks b k hk
  cases k with
  | sl e sz f rows => obtain ⟨cells, h1, _⟩ := this; exact (h1.lt g hg).2
  | bx e cells =>
    obtain ⟨g', cs, h1, h2, _⟩ := this
    rw [h1] at hg
    simp only [Value.ownBlock, Option.some.injEq] at hg
    subst hg
    exact (Array.getElem?_eq_some_iff.1 h2).1

def ηSet (η : Nat → Value) (b : Nat) (v : Value) : Nat → Value := fun c => if c = b then v else η c
theorem ηSet_same (η : Nat → Value) (b : Nat) (v : Value) : ηSet η b v b = v := if_pos rfl
theorem ηSet_other {η : Nat → Value} {b c : Nat} {v : Value} (h : c ≠ b) : ηSet η b v c = η c := if_neg h
theorem hpSet_same (hp : Hp) (b : Nat) (x : Option Blk) : hpSet hp b x b = x := if_pos rfl
theorem hpSet_other {hp : Hp} {b c : Nat} {x : Option Blk} (h : c ≠ b) : hpSet hp b x c = hp c := if_neg h

theorem Kept.new {C : Ctx} {w w' : World} (h : Kept C w) (hb : ∀ g, g < w.heap.size → w'.heap[g]? = w.heap[g]?) (hs : w.heap.size ≤ w'.heap.size) (ho : w'.os = w.os) (ht : w'.tape = w.tape) (hout : w'.output = w.output) : Kept C w' :=
  ⟨ho.trans h.os, ht.trans h.tape, hout.trans h.output, Nat.le_trans h.size hs, fun k hk hn => (hb k (Nat.lt_of_lt_of_le hk h.size)).trans (h.block k hk hn)⟩

/-- A new block: the number b is not in use and not mentioned. -/
theorem HRep.new (h : HRep C w η F hp) {b : Nat} {k : Blk} {v : Value} (hb : ∀ g, g < w.heap.size → w'.heap[g]? = w.heap[g]?) (hs : w.heap.size ≤ w'.heap.size) (ho : w'.os = w.os) (ht : w'.tape = w.tape) (hout : w'.output = w.output)
    (hn : hp b = none) (hu : UnmentB hp b) (hbs : C.bs.length ≤ b) (hv : ∀ g, v.ownBlock = some g → w.heap.size ≤ g) (hl : k.live = true) (hk : BRep w' F (ηSet η b v) (hpSet hp b (some k)) b k) : HRep C w' (ηSet η b v) F (hpSet hp b (some k)) := by
  refine h.step (fun c => c = b) (fun c hc => ⟨hpSet_other hc, ηSet_other hc⟩) (fun c k g _ hk _ hg => hb g (h.lt hk hg)) (fun _ h => h) (fun g hg => hb g (h.Flt g hg)) (fun c => ?_) (fun c k' hc hk' => ?_) ?_ (fun _ _ _ _ _ _ h => .inl h) ?_ ?_ (fun g hg => Nat.lt_of_lt_of_le (h.Flt g hg) hs) ?_ ?_ (h.keep.new hb hs ho ht hout) h.Fbd
  · by_cases hc : c = b
    · subst hc; exact .inl hu
    · exact .inr (Stays.of_same (hpSet_other hc) (ηSet_other hc))
  · subst hc
    rw [hpSet_same] at hk'
    injection hk' with hk'
    subst hk'
    exact hk
  · intro c c' k1 k2 g hc h1 h2 hne hl1 hl2 hg
    subst hc
    rw [ηSet_same] at hg
    have hc' : c' ≠ c := Ne.symm hne
    rw [ηSet_other hc']
    rw [hpSet_other hc'] at h2
    intro hg'
    have := h.lt h2 hg'
    have := hv g hg
    omega
  · intro c k1 g hc h1 hl1 hg hF
    subst hc
    rw [ηSet_same] at hg
    have := hv g hg
    have := h.Flt g hF
    omega
  · intro c k1 g hc h1 hl1 hg
    subst hc
    rw [hpSet_same] at h1
    injection h1 with h1
    subst h1
    rw [hl] at hl1
    cases hl1
  · intro c k1 g hc h1 hl1 hg
    subst hc
    rw [ηSet_same] at hg
    exact .inl ⟨Nat.le_trans h.keep.size (hv g hg), hbs⟩
  · intro j g hj hg
    subst hj
    rw [List.getElem?_eq_none (by omega)] at hg
    cases hg

/-- A block of one's own is given up. -/
theorem HRep.drop (h : HRep C w η F hp) {b : Nat} (hbs : C.bs.length ≤ b) : HRep C w η F (hpSet hp b none) := by
  refine h.step (fun c => c = b) (fun c hc => ⟨hpSet_other hc, rfl⟩) (fun _ _ _ _ _ _ _ => rfl) (fun _ h => h) (fun _ _ => rfl) (fun c => ?_) (fun c k' hc hk' => ?_) ?_ (fun _ _ _ _ _ _ h => .inl h) ?_ ?_ h.Flt ?_ ?_ h.keep h.Fbd
  · by_cases hc : c = b
    · subst hc; exact .inr (.inl (hpSet_same _ _ _))
    · exact .inr (Stays.of_same (hpSet_other hc) rfl)
  · subst hc; rw [hpSet_same] at hk'; cases hk'
  · intro c c' k1 k2 g hc h1; subst hc; rw [hpSet_same] at h1; cases h1
  · intro c k1 g hc h1; subst hc; rw [hpSet_same] at h1; cases h1
  · intro c k1 g hc h1; subst hc; rw [hpSet_same] at h1; cases h1
  · intro c k1 g hc h1; subst hc; rw [hpSet_same] at h1; cases h1
  · intro j g hj hg; subst hj; rw [List.getElem?_eq_none (by omega)] at hg; cases hg

/-- A live block is written. -/
theorem HRep.write (h : HRep C w η F hp) {b : Nat} {k k' : Blk} {g0 : Nat} (hk : hp b = some k) (hlv : k.live = true) (hlv' : k'.live = true) (hown : (η b).ownBlock = some g0)
    (hkind : Stays η η hp (hpSet hp b (some k')) b) (hbx : ∀ e cells, k = .bx e cells → ∃ e cells, k' = .bx e cells)
    (hb : ∀ g, g ≠ g0 → w'.heap[g]? = w.heap[g]?) (hs : w'.heap.size = w.heap.size) (ho : w'.os = w.os) (ht : w'.tape = w.tape) (hout : w'.output = w.output)
    (hr : BRep w' F η (hpSet hp b (some k')) b k') : HRep C w' η F (hpSet hp b (some k')) := by
  have hg0 : ¬ F g0 := h.liveF b k g0 hk hlv hown
  refine h.step (fun c => c = b) (fun c hc => ⟨hpSet_other hc, rfl⟩) (fun c k1 g hc hk1 hl hg => hb g (fun e => ?_)) (fun _ h => h) (fun g hg => hb g (fun e => hg0 (e ▸ hg))) (fun c => ?_) (fun c k1 hc hk1 => ?_) ?_ (fun _ _ _ _ _ _ h => .inl h) ?_ ?_ (fun g hg => by rw [hs]; exact h.Flt g hg) ?_ ?_ ?_ h.Fbd
  · subst e
    exact h.sep c b k1 k g hk1 hk hc hl hlv hg hown
  · by_cases hc : c = b
    · subst hc; exact .inr hkind
    · exact .inr (Stays.of_same (hpSet_other hc) rfl)
  · subst hc; rw [hpSet_same] at hk1; injection hk1 with hk1; subst hk1; exact hr
  · intro c c' k1 k2 g hc h1 h2 hne hl1 hl2 hg
    subst hc
    rw [hpSet_other (Ne.symm hne)] at h2
    exact h.sep c c' k k2 g hk h2 hne hlv hl2 hg
  · intro c k1 g hc h1 hl1 hg; subst hc; exact h.liveF c k g hk hlv hg
  · intro c k1 g hc h1 hl1 hg; subst hc; rw [hpSet_same] at h1; injection h1 with h1; subst h1; rw [hlv'] at hl1; cases hl1
  · intro c k1 g hc h1 hl1 hg; subst hc; exact h.fresh c k g hk hlv hg
  · intro j g hj hg
    subst hj
    obtain ⟨⟨e, cells, h1⟩, h2⟩ := h.bor j g hg
    rw [hk] at h1
    injection h1 with h1
    obtain ⟨e', cells', h3⟩ := hbx e cells h1
    exact ⟨⟨e', cells', by rw [hpSet_same, h3]⟩, h2⟩
  · refine ⟨ho.trans h.keep.os, ht.trans h.keep.tape, hout.trans h.keep.output, by rw [hs]; exact h.keep.size, fun k1 hk1 hn => (hb k1 fun e => ?_).trans (h.keep.block k1 hk1 hn)⟩
    subst e
    rcases h.fresh b k k1 hk hlv hown with h1 | h1
    · omega
    · exact hn (List.mem_of_getElem? h1)

/-- A slice's block is frozen: from now on nobody writes it. -/
theorem HRep.freeze (h : HRep C w η F hp) {b : Nat} {e : TypeId} {sz : Nat} {f : Bool} {rows : List (List TV)} (hk : hp b = some (.sl e sz f rows)) :
    HRep C w η (fun g => F g ∨ (η b).ownBlock = some g) (hpSet hp b (some (.sl e sz true rows))) := by
  have hbr := h.blocks b _ hk
  refine h.step (fun c => c = b) (fun c hc => ⟨hpSet_other hc, rfl⟩) (fun _ _ _ _ _ _ _ => rfl) (fun _ h => .inl h) (fun _ _ => rfl) (fun c => ?_) (fun c k1 hc hk1 => ?_) ?_ ?_ ?_ ?_ ?_ ?_ ?_ h.keep ?_
  · by_cases hc : c = b
    · subst hc; exact .inr (.inr (.inl ⟨e, sz, f, rows, true, rows, hk, hpSet_same _ _ _, rfl⟩))
    · exact .inr (Stays.of_same (hpSet_other hc) rfl)
  · subst hc
    rw [hpSet_same] at hk1
    injection hk1 with hk1
    subst hk1
    obtain ⟨cells, h1, h2, h3⟩ := hbr
    exact ⟨cells, h1, h2, fun i j row x hi hj => let ⟨u, e1, e2⟩ := h3 i j row x hi hj; ⟨u, e1, e2.keep (fun _ h => .inl h) fun _ _ _ _ h => h⟩⟩
  · intro c c' k1 k2 g hc h1 h2 hne hl1; subst hc; rw [hpSet_same] at h1; injection h1 with h1; subst h1; cases hl1
  · intro c k1 g h1 hl hg hF
    by_cases hc : c = b
    · subst hc; rw [hpSet_same] at h1; injection h1 with h1; subst h1; cases hl
    · rw [hpSet_other hc] at h1
      rcases hF with hF | hF
      · exact .inl hF
      · cases f with
        | true => exact .inl (h.frzF b _ g hk rfl hF)
        | false => exact (h.sep c b k1 _ g h1 hk hc hl rfl hg hF).elim
  · intro c k1 g hc h1 hl1 hg; subst hc; rw [hpSet_same] at h1; injection h1 with h1; subst h1; cases hl1
  · intro c k1 g hc h1 hl1 hg; subst hc; exact .inr hg
  · intro g hg
    rcases hg with hg | hg
    · exact h.Flt g hg
    · exact h.lt hk hg
  · intro c k1 g hc h1 hl1 hg; subst hc; rw [hpSet_same] at h1; injection h1 with h1; subst h1; cases hl1
  · intro j g hj hg
    subst hj
    obtain ⟨⟨e', cells, h1⟩, h2⟩ := h.bor j g hg
    rw [hk] at h1
    cases h1
  · intro g hg
    rcases hg with hg | hg
    · exact h.Fbd g hg
    · cases f with
      | true => exact h.Fbd g (h.frzF b _ g hk rfl hg)
      | false =>
        rcases h.fresh b _ g hk rfl hg with h1 | h1
        · exact .inr h1.1
        · obtain ⟨⟨e', cells, h2⟩, _⟩ := h.bor b g h1
          rw [hk] at h2
          cases h2
end
end Go.Proofs.YtjfkdjlmajfljaaDoor
