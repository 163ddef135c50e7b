/- Contracts of functions on abstract values, and a call by contract. -/
import Derived.Test.YtjfkdjlmajfljaaDoorOpG
namespace Go.Proofs.YtjfkdjlmajfljaaDoor
open Go.RowKit

def lentHp (B : List (TypeId × List TV)) : Hp := fun j => (B[j]?).map fun x => .bx x.1 (x.2.map .v)
/-- The blocks behind a call: the lent ones, then the new ones. -/
def afterHp (B : List (TypeId × List TV)) (E : List Blk) : Hp := fun j => if j < B.length then lentHp B j else E[j - B.length]?

/-- The contract of a function: with blocks lent that hold B and with these arguments (the lent block j is 'ptr j 0 0') it returns r, which mentions lent block j as number j and new block i as number 'B.length + i';
the new blocks are E, the lent ones hold B' afterwards, and all else is as it was. -/
def FCalls (P : Program) (f : FuncId) (B : List (TypeId × List TV)) (args : List WV) (r : SV) (E : List Blk) (B' : List (TypeId × List TV)) : Prop :=
  (∃ fn, P.funcs[f]? = some fn ∧ (fn.name == "runtime.NumGoroutine") = false ∧ fn.body.isNone = false) ∧ B'.map (·.1) = B.map (·.1) ∧
  ∀ (w : World) (gs : List Nat) (η : Nat → Value) (F : Nat → Prop) (vs : Array Value), gs.length = B.length → HRep ⟨w, gs, F⟩ w η F (lentHp B) → vs.size = args.length →
    (∀ (i : Nat) (x : WV) (v : Value), args[i]? = some x → vs[i]? = some v → WRep w F η (lentHp B) x v) →
    Calls P f vs w fun e w' => ∃ v η' F', e = .returned v ∧ HRep ⟨w, gs, F⟩ w' η' F' (afterHp B' E) ∧ SRep w' F' η' (afterHp B' E) r v

/-! ### Arguments -/
/-- A cell as an argument: a slice of one's own is handed over as a slice that does not change, a variable is lent. -/
def argA (S : List (Nat × Blk)) (L : List Nat) : AV → Option AV
  | .v t => some (.v t)
  | .mref b => match S.find? (fun p => p.1 == b) with
    | some (_, .sl _ _ _ rows) => some (.v (.tree rows))
    | _ => none
  | .ptr b i o => if L.contains b then some (.ptr (L.idxOf b) i o) else none
  | .tptr row o => some (.tptr row o)
  | _ => none
def argsA (S : List (Nat × Blk)) (L : List Nat) : List AV → Option (List AV)
  | [] => some []
  | x :: r => match argA S L x with
    | none => none
    | some y => (argsA S L r).map (y :: ·)
def argW (S : List (Nat × Blk)) (L : List Nat) : WV → Option WV
  | .c a => (argA S L a).map .c
  | .agg l => (argsA S L l).map .agg
def argsW (S : List (Nat × Blk)) (L : List Nat) (ev : Operand → SV) : List Operand → Option (List WV)
  | [] => some []
  | x :: r => match ev x with
    | .w v => match argW S L v with
      | none => none
      | some y => (argsW S L ev r).map (y :: ·)
    | .tup _ => none

def AV.ren (τ : Nat → Nat) : AV → AV
  | .mref b => .mref (τ b)
  | .ptr b i o => .ptr (τ b) i o
  | x => x
def WV.ren (τ : Nat → Nat) : WV → WV
  | .c a => .c (a.ren τ)
  | .agg l => .agg (l.map (AV.ren τ))
def SV.ren (τ : Nat → Nat) : SV → SV
  | .w x => .w (x.ren τ)
  | .tup l => .tup (l.map (WV.ren τ))

section
variable {P : Program} {C : Ctx} {w w' : World} {η η' : Nat → Value} {F F' : Nat → Prop} {sl : Sl} {hp hp' : Hp} {N : Nat} {a : Act} {o : Oper} {ev : Operand → SV} {t : TypeId} {y : Ty}

theorem AV.ment_ren {τ : Nat → Nat} {x : AV} {j : Nat} (h : x.ment j = true) : (x.ren τ).ment (τ j) = true := by
  cases x <;> simp_all [AV.ment, AV.ren]

/-- The same cell under other numbers. -/
theorem CRep.ren {τ : Nat → Nat} {x : AV} {u : Value} (h : CRep w F η hp x u) (hF : ∀ g, F g → F' g) (hm : ∀ j, x.ment j = true → (hp j).isSome = true ∧ (∃ k, hp' (τ j) = some k ∧ (match hp j with | some (.sl _ sz _ _) => ∃ e f rows, k = .sl e sz f rows | some (.bx ..) => ∃ e cells, k = .bx e cells | none => False)) ∧ η' (τ j) = η j) : CRep w F' η' hp' (x.ren τ) u := by
  cases x with
  | v t => exact Tr.keep h hF fun _ _ _ _ h => h
  | mref b =>
    obtain ⟨h1, ⟨k, h2, h3⟩, h4⟩ := hm b (by simp [AV.ment])
    simp only [CRep, AV.ren] at h ⊢
    cases hb : hp b with
    | none => rw [hb] at h1; cases h1
    | some kb =>
      rw [hb] at h h3
      rw [h2]
      cases kb with
      | sl e sz f rows => obtain ⟨_, _, _, rfl⟩ := h3; rw [h4]; exact h
      | bx e cells => obtain ⟨_, _, rfl⟩ := h3; exact h
  | ptr b i o =>
    obtain ⟨h1, ⟨k, h2, h3⟩, h4⟩ := hm b (by simp [AV.ment])
    simp only [CRep, AV.ren] at h ⊢
    cases hb : hp b with
    | none => rw [hb] at h1; cases h1
    | some kb =>
      rw [hb] at h h3
      rw [h2]
      cases kb with
      | sl e sz f rows => obtain ⟨_, _, _, rfl⟩ := h3; rw [h4]; exact h
      | bx e cells => obtain ⟨_, _, rfl⟩ := h3; rw [h4]; exact h
  | tptr row o =>
    obtain ⟨g, p, cv, h1, h2, h3⟩ := h
    exact ⟨g, p, cv, hF _ h1, h2, fun j x hj => ⟨(h3 j x hj).1, Tr.keep (h3 j x hj).2 hF fun _ _ _ _ h => h⟩⟩
  | one => exact h
  | any => trivial

abbrev Renames (τ : Nat → Nat) (η η' : Nat → Value) (hp hp' : Hp) (j : Nat) : Prop :=
  (hp j).isSome = true ∧ (∃ k, hp' (τ j) = some k ∧ (match hp j with | some (.sl _ sz _ _) => ∃ e f rows, k = .sl e sz f rows | some (.bx ..) => ∃ e cells, k = .bx e cells | none => False)) ∧ η' (τ j) = η j

theorem CsRep.ren {τ : Nat → Nat} {l : List AV} {us : List Value} (h : CsRep w F η hp l us) (hF : ∀ g, F g → F' g) (hm : ∀ j, l.any (AV.ment j) = true → Renames τ η η' hp hp' j) : CsRep w F' η' hp' (l.map (AV.ren τ)) us := by
  refine ⟨by simpa using h.1, h.2.1, fun i x u hx hu => ?_⟩
  rw [List.getElem?_map, Option.map_eq_some_iff] at hx
  obtain ⟨z, h1, rfl⟩ := hx
  exact (h.2.2 i z u h1 hu).ren hF fun j hj => hm j (List.any_eq_true.2 ⟨z, List.mem_of_getElem? h1, hj⟩)
theorem WRep.ren {τ : Nat → Nat} {x : WV} {u : Value} (h : WRep w F η hp x u) (hF : ∀ g, F g → F' g) (hm : ∀ j, x.ment j = true → Renames τ η η' hp hp' j) : WRep w F' η' hp' (x.ren τ) u := by
  cases x with
  | c a => exact CRep.ren h hF hm
  | agg l => obtain ⟨us, h1, h2⟩ := h; exact ⟨us, h1, h2.ren hF hm⟩
theorem SRep.ren {τ : Nat → Nat} {x : SV} {u : Value} (h : SRep w F η hp x u) (hF : ∀ g, F g → F' g) (hm : ∀ j, x.ment j = true → Renames τ η η' hp hp' j) : SRep w F' η' hp' (x.ren τ) u := by
  cases x with
  | w x => exact WRep.ren h hF hm
  | tup l =>
    obtain ⟨us, h1, h2, h3⟩ := h
    refine ⟨us, h1, by simpa using h2, fun i x u hx hu => ?_⟩
    rw [List.getElem?_map, Option.map_eq_some_iff] at hx
    obtain ⟨z, h4, rfl⟩ := hx
    exact (h3 i z u h4 hu).ren hF fun j hj => hm j (List.any_eq_true.2 ⟨z, List.mem_of_getElem? h4, hj⟩)

/-! ### Lending -/
/-- What is handed over: S, the slices (they are not written while the call lasts); L, the lent variables. -/
structure Lend (hp : Hp) (S : List (Nat × Blk)) (L : List Nat) (B : List (TypeId × List TV)) : Prop where
  lenB : L.length = B.length
  nodup : L.Nodup
  lent : ∀ (j : Nat) (b : Nat) (x : TypeId × List TV), L[j]? = some b → B[j]? = some x → hp b = some (.bx x.1 (x.2.map .v))
  snap : ∀ p ∈ S, hp p.1 = some p.2 ∧ ∃ e sz f rows, p.2 = .sl e sz f rows

def inS (η : Nat → Value) (S : List (Nat × Blk)) (g : Nat) : Prop := ∃ p ∈ S, (η p.1).ownBlock = some g

theorem ownBlock_slice {g n c : Nat} : (Value.slice (some ⟨g, 0, none⟩) n c).ownBlock = some g := rfl

theorem HRep.bxOwn (h : HRep C w η F hp) {b : Nat} {e : TypeId} {cells : List AV} (hb : hp b = some (.bx e cells)) : ∃ g, η b = .slice (some ⟨g, 0, none⟩) 1 1 := by
  obtain ⟨g, cs, h1, _⟩ := h.blocks b _ hb
  exact ⟨g, h1⟩

theorem HRep.ambCall (h : HRep C w η F hp) {gs : List Nat} {F0 : Nat → Prop} (hgs : ∀ g ∈ gs, ∃ b k, hp b = some k ∧ k.live = true ∧ (η b).ownBlock = some g) : Amb ⟨w, gs, F0⟩ := fun hd => by
  obtain ⟨h1, h2⟩ := h.amb hd
  have hp0 := h1.pos
  refine ⟨h1.keep (h.keep.block 0 hp0 fun hm => h2 0 hm rfl), fun g hg => ?_⟩
  obtain ⟨b, k, h3, h4, h5⟩ := hgs g hg
  rcases h.fresh b k g h3 h4 h5 with ⟨h6, _⟩ | h6
  · omega
  · exact h2 g (List.mem_of_getElem? h6)
theorem Lend.hrep (h : HRep C w η F hp) {S : List (Nat × Blk)} {L : List Nat} {B : List (TypeId × List TV)} (hL : Lend hp S L B) :
    ∃ gs : List Nat, gs.length = B.length ∧ (∀ (j b : Nat), L[j]? = some b → ∃ g, gs[j]? = some g ∧ η b = .slice (some ⟨g, 0, none⟩) 1 1) ∧
      HRep ⟨w, gs, fun g => F g ∨ inS η S g⟩ w (fun j => η (L.getD j 0)) (fun g => F g ∨ inS η S g) (lentHp B) := by
  have hget : ∀ (j : Nat) (x : TypeId × List TV), B[j]? = some x → ∃ b, L[j]? = some b ∧ hp b = some (.bx x.1 (x.2.map .v)) := fun j x hx => by
    have hlt : j < L.length := by rw [hL.lenB]; exact (List.getElem?_eq_some_iff.1 hx).1
    exact ⟨L[j], List.getElem?_eq_getElem hlt, hL.lent j _ x (List.getElem?_eq_getElem hlt) hx⟩
  have hgd : ∀ (j b : Nat), L[j]? = some b → L.getD j 0 = b := fun j b hb => by rw [List.getD_eq_getElem?_getD, hb]; rfl
  have hblk : ∀ (j b : Nat), L[j]? = some b → ∃ g, η b = .slice (some ⟨g, 0, none⟩) 1 1 := fun j b hb => by
    have hlt : j < B.length := by rw [← hL.lenB]; exact (List.getElem?_eq_some_iff.1 hb).1
    exact h.bxOwn (hL.lent j b _ hb (List.getElem?_eq_getElem hlt))
  refine ⟨L.map fun b => ((η b).ownBlock).getD 0, by rw [List.length_map, hL.lenB], fun j b hb => ?_, ?_⟩
  · obtain ⟨g, hg⟩ := hblk j b hb
    exact ⟨g, by rw [List.getElem?_map, hb]; simp [hg, Value.ownBlock], hg⟩
  · have hlent : ∀ (j : Nat) (k : Blk), lentHp B j = some k → ∃ b x, L[j]? = some b ∧ B[j]? = some x ∧ k = .bx x.1 (x.2.map .v) ∧ hp b = some k := fun j k hk => by
      unfold lentHp at hk
      rw [Option.map_eq_some_iff] at hk
      obtain ⟨x, hx, rfl⟩ := hk
      obtain ⟨b, h1, h2⟩ := hget j x hx
      exact ⟨b, x, h1, hx, rfl, h2⟩
    have hnS : ∀ (b : Nat) (k : Blk) (g : Nat), hp b = some k → (∃ e cells, k = .bx e cells) → (η b).ownBlock = some g → ¬ (F g ∨ inS η S g) := fun b k g hb hk hg hF => by
      obtain ⟨e, cells, rfl⟩ := hk
      rcases hF with hF | ⟨p, hp1, hp2⟩
      · exact h.liveF b _ g hb rfl hg hF
      · obtain ⟨h1, e', sz, f, rows, h2⟩ := hL.snap p hp1
        rw [h2] at h1
        cases f with
        | true => exact h.liveF b _ g hb rfl hg (h.frzF p.1 _ g h1 rfl hp2)
        | false =>
          have hne : b ≠ p.1 := by rintro rfl; rw [hb] at h1; cases h1
          exact h.sep b p.1 _ _ g hb h1 hne rfl rfl hg hp2
    refine ⟨fun j k hk => ?_, fun j j' k k' g hk hk' hne _ _ hg => ?_, fun j k g hk _ hg => ?_, fun j k g hk hl hg => ?_, fun g hg => ?_, fun j k g hk hl hg => ?_, fun j g hj => ?_, ⟨rfl, rfl, rfl, Nat.le_refl _, fun _ _ _ => rfl⟩, fun _ h => .inl h, h.ambCall fun g hg => by
      obtain ⟨b, hbm, hbg⟩ := List.mem_map.1 hg
      obtain ⟨j, hj⟩ := List.getElem?_of_mem hbm
      obtain ⟨g', hg'⟩ := hblk j b hj
      have hjl : j < B.length := by rw [← hL.lenB]; exact (List.getElem?_eq_some_iff.1 hj).1
      refine ⟨b, _, hL.lent j b _ hj (List.getElem?_eq_getElem hjl), rfl, ?_⟩
      rw [hg'] at hbg ⊢
      simp only [Value.ownBlock, Option.getD_some] at hbg
      rw [← hbg]; rfl⟩
    · obtain ⟨b, x, h1, h2, rfl, h4⟩ := hlent j k hk
      obtain ⟨g, cs, h5, h6, h7⟩ := h.blocks b _ h4
      refine ⟨g, cs, by show η (L.getD j 0) = _; rw [hgd j b h1]; exact h5, h6, h7.1, h7.2.1, fun i z u hz hu => ?_⟩
      have := h7.2.2 i z u hz hu
      rw [List.getElem?_map, Option.map_eq_some_iff] at hz
      obtain ⟨t, _, rfl⟩ := hz
      exact Tr.keep this (fun _ h => .inl h) fun _ _ _ _ h => h
    · obtain ⟨b, x, h1, _, rfl, h4⟩ := hlent j k hk
      obtain ⟨b', x', h1', _, rfl, h4'⟩ := hlent j' k' hk'
      rw [hgd j b h1] at hg
      rw [hgd j' b' h1']
      have hbb : b ≠ b' := by
        rintro rfl
        obtain ⟨q1, q2⟩ := List.getElem?_eq_some_iff.1 h1
        obtain ⟨q3, q4⟩ := List.getElem?_eq_some_iff.1 h1'
        exact hne ((List.getElem_inj hL.nodup).1 (q2.trans q4.symm))
      exact h.sep b b' _ _ g h4 h4' hbb rfl rfl hg
    · obtain ⟨b, x, h1, _, rfl, h4⟩ := hlent j k hk
      rw [hgd j b h1] at hg
      exact hnS b _ g h4 ⟨_, _, rfl⟩ hg
    · obtain ⟨b, x, h1, _, rfl, h4⟩ := hlent j k hk
      cases hl
    · rcases hg with hg | ⟨p, hp1, hp2⟩
      · exact h.Flt g hg
      · obtain ⟨h1, _⟩ := hL.snap p hp1
        exact h.lt h1 hp2
    · obtain ⟨b, x, h1, _, rfl, h4⟩ := hlent j k hk
      rw [hgd j b h1] at hg
      exact .inr (by rw [List.getElem?_map, h1]; simp [hg])
    · rw [List.getElem?_map, Option.map_eq_some_iff] at hj
      obtain ⟨b, h1, h2⟩ := hj
      have hlt : j < B.length := by rw [← hL.lenB]; exact (List.getElem?_eq_some_iff.1 h1).1
      obtain ⟨g', hg'⟩ := hblk j b h1
      refine ⟨⟨_, _, by unfold lentHp; rw [List.getElem?_eq_getElem hlt]; rfl⟩, ?_⟩
      rw [hgd j b h1, hg']
      rw [hg'] at h2
      simpa [Value.ownBlock] using h2

theorem argA_rep (h : HRep C w η F hp) {S : List (Nat × Blk)} {L : List Nat} {B : List (TypeId × List TV)} (hL : Lend hp S L B) {x z : AV} {u : Value} (hx : argA S L x = some z) (hr : CRep w F η hp x u) : CRep w (fun g => F g ∨ inS η S g) (fun j => η (L.getD j 0)) (lentHp B) z u := by
  cases x with
  | v t =>
    simp only [argA, Option.some.injEq] at hx
    subst hx
    exact Tr.keep hr (fun _ h => .inl h) fun _ _ _ _ h => h
  | mref b =>
    unfold argA at hx
    dsimp only at hx
    split at hx
    · rename_i b' e sz f rows hf
      injection hx with hx
      subst hx
      have hm := List.mem_of_find?_eq_some hf
      have hb' : b' = b := by have := List.find?_some hf; simpa using this
      subst hb'
      obtain ⟨h1, _⟩ := hL.snap _ hm
      simp only [CRep, h1] at hr
      rw [hr]
      have hb2 : BRep w (fun g => F g ∨ inS η S g) η hp b' (.sl e sz f rows) := (h.blocks b' _ h1).keep rfl (fun _ _ => rfl) (fun _ h => .inl h) (fun _ _ => rfl) h.oneη (fun _ _ hk => by cases hk)
      exact hb2.tree fun g hg => .inr ⟨_, hm, hg⟩
    · cases hx
  | ptr b i o =>
    unfold argA at hx
    dsimp only at hx
    split at hx
    · rename_i hc
      injection hx with hx
      subst hx
      have hmem : b ∈ L := by simpa using hc
      have hlt : L.idxOf b < L.length := List.idxOf_lt_length_iff.2 hmem
      have hg : L[L.idxOf b]? = some b := by rw [List.getElem?_eq_getElem hlt, List.getElem_idxOf]
      have hltB : L.idxOf b < B.length := by rw [← hL.lenB]; exact hlt
      have hb := hL.lent _ b _ hg (List.getElem?_eq_getElem hltB)
      simp only [CRep, hb] at hr
      have hlb : lentHp B (L.idxOf b) = some (.bx (B[L.idxOf b]).1 ((B[L.idxOf b]).2.map .v)) := by unfold lentHp; rw [List.getElem?_eq_getElem hltB]; rfl
      simp only [CRep, hlb]
      rw [List.getD_eq_getElem?_getD, hg]
      exact hr
    · cases hx
  | tptr row o =>
    simp only [argA, Option.some.injEq] at hx
    subst hx
    obtain ⟨g, p, cv, h1, h2, h3⟩ := hr
    exact ⟨g, p, cv, .inl h1, h2, fun j x hj => ⟨(h3 j x hj).1, Tr.keep (h3 j x hj).2 (fun _ h => .inl h) fun _ _ _ _ h => h⟩⟩
  | one => cases hx
  | any => cases hx

theorem argsA_rep (h : HRep C w η F hp) {S : List (Nat × Blk)} {L : List Nat} {B : List (TypeId × List TV)} (hL : Lend hp S L B) : ∀ {l l' : List AV}, argsA S L l = some l' → l'.length = l.length ∧
    ∀ (i : Nat) (z : AV) (u : Value) (us : List Value), CsRep w F η hp l us → l'[i]? = some z → us[i]? = some u → CRep w (fun g => F g ∨ inS η S g) (fun j => η (L.getD j 0)) (lentHp B) z u := by
  intro l
  induction l with
  | nil => intro l' h; simp [argsA] at h; subst h; simp
  | cons x l ih =>
    intro l' h'
    unfold argsA at h'
    split at h'
    · cases h'
    · rename_i y hy
      rw [Option.map_eq_some_iff] at h'
      obtain ⟨r, hr, rfl⟩ := h'
      obtain ⟨h1, h2⟩ := ih hr
      refine ⟨by simp [h1], fun i z u us hus hz hu => ?_⟩
      cases us with
      | nil => simp at hu
      | cons u0 us =>
        obtain ⟨q1, q2, q3⟩ := hus
        cases i with
        | zero =>
          simp at hz hu
          subst hz; subst hu
          exact argA_rep h hL hy (q3 0 x u0 rfl rfl)
        | succ i => exact h2 i z u us ⟨by simpa using q1, fun y hy => q2 y (by simp [hy]), fun j a b ha hb => q3 (j + 1) a b (by simpa using ha) (by simpa using hb)⟩ (by simpa using hz) (by simpa using hu)

theorem argW_rep (h : HRep C w η F hp) {S : List (Nat × Blk)} {L : List Nat} {B : List (TypeId × List TV)} (hL : Lend hp S L B) {x z : WV} {u : Value} (hx : argW S L x = some z) (hr : WRep w F η hp x u) : WRep w (fun g => F g ∨ inS η S g) (fun j => η (L.getD j 0)) (lentHp B) z u := by
  cases x with
  | c a =>
    simp only [argW, Option.map_eq_some_iff] at hx
    obtain ⟨y, h1, rfl⟩ := hx
    exact argA_rep h hL h1 hr
  | agg l =>
    simp only [argW, Option.map_eq_some_iff] at hx
    obtain ⟨l', h1, rfl⟩ := hx
    obtain ⟨us, h2, h3⟩ := hr
    obtain ⟨h4, h5⟩ := argsA_rep h hL h1
    exact ⟨us, h2, by rw [h4]; exact h3.1, h3.2.1, fun i z u hz hu => h5 i z u us h3 hz hu⟩

theorem argsW_rep (hR : Reps C w η F sl hp N a) {S : List (Nat × Blk)} {L : List Nat} {B : List (TypeId × List TV)} (hL : Lend hp S L B) : ∀ {args : List Operand} {l : List WV}, (∀ x ∈ args, evalS sl x = ev x) → argsW S L ev args = some l →
    (args.map a.eval).length = l.length ∧ ∀ (i : Nat) (x : WV) (u : Value), l[i]? = some x → (args.map a.eval)[i]? = some u → WRep w (fun g => F g ∨ inS η S g) (fun j => η (L.getD j 0)) (lentHp B) x u := by
  intro args
  induction args with
  | nil => intro l _ h; simp [argsW] at h; subst h; simp
  | cons x args ih =>
    intro l hev h
    unfold argsW at h
    split at h
    · rename_i v hv
      split at h
      · cases h
      · rename_i y hy
        rw [Option.map_eq_some_iff] at h
        obtain ⟨l', h1, rfl⟩ := h
        obtain ⟨h2, h3⟩ := ih (fun z hz => hev z (by simp [hz])) h1
        refine ⟨by simpa using h2, fun i z u hz hu => ?_⟩
        cases i with
        | zero =>
          simp at hz hu
          subst hz; subst hu
          have := hR.eval x
          rw [hev x (by simp), hv] at this
          exact argW_rep hR.heap hL hy this
        | succ i => exact h3 i z u (by simpa using hz) (by simpa using hu)
    · cases h

/-! ### What stands behind a call -/
theorem hpUpd_other : ∀ {upd : List (Nat × Option Blk)} {hp : Hp} {b : Nat}, b ∉ upd.map (·.1) → hpUpd hp upd b = hp b
  | [], _, _, _ => rfl
  | (c, x) :: r, hp, b, h => by
    simp only [List.map_cons, List.mem_cons, not_or] at h
    show hpUpd (hpSet hp c x) r b = _
    rw [hpUpd_other h.2, hpSet_other h.1]
theorem hpUpd_mem : ∀ {upd : List (Nat × Option Blk)} {hp : Hp} {b : Nat} {x : Option Blk}, (upd.map (·.1)).Nodup → (b, x) ∈ upd → hpUpd hp upd b = x
  | (c, y) :: r, hp, b, x, hn, h => by
    simp only [List.map_cons, List.nodup_cons] at hn
    show hpUpd (hpSet hp c y) r b = _
    rcases List.mem_cons.1 h with h | h
    · injection h with h1 h2
      subst h1; subst h2
      rw [hpUpd_other hn.1, hpSet_same]
    · exact hpUpd_mem hn.2 h
end
#print axioms argsW_rep
end Go.Proofs.YtjfkdjlmajfljaaDoor
