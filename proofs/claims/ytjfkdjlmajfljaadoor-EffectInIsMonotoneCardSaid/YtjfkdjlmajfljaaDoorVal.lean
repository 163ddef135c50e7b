/- A machine on values: abstract values, abstract blocks, and what it means that a world holds them. No program in sight. -/
import Derived.Lib.TrailingZeros
import Derived.WalkKit
import Derived.WalkSpells
import Derived.Deep.Fields
namespace Go.Proofs.YtjfkdjlmajfljaaDoor
open Go.RowKit

/-- A closed value of one cell: an integer, a bool, a slice whose elements never change. -/
inductive TV where
  | int (k : IntKind) (n : Int)
  | bool (b : Bool)
  | nil
  | tree (rows : List (List TV))

/-- A cell: a closed value, a slice on a block of one's own, a pointer into such a block, a pointer into an element that never changes, any value of one cell, anything. -/
inductive AV where
  | v (t : TV)
  | mref (b : Nat)
  | ptr (b i o : Nat)
  | tptr (row : List TV) (o : Nat)
  | one
  | any

inductive WV where
  | c (a : AV)
  | agg (l : List AV)

inductive SV where
  | w (x : WV)
  | tup (l : List WV)

/-- A block of one's own: the array of a slice (frozen: it is not written any more), or a variable. -/
inductive Blk where
  | sl (e : TypeId) (sz : Nat) (frz : Bool) (rows : List (List TV))
  | bx (e : TypeId) (cells : List AV)

def Blk.live : Blk → Bool
  | .sl _ _ f _ => !f
  | .bx .. => true

inductive Tr (w : World) (F : Nat → Prop) : TV → Value → Prop
  | int (k : IntKind) (n : Int) : Tr w F (.int k n) (.int k n)
  | bool (b : Bool) : Tr w F (.bool b) (.bool b)
  | nil : Tr w F .nil (.slice none 0 0)
  | empty (a : Option Addr) (c : Nat) (hm : c ≤ maxLen) : Tr w F (.tree []) (.slice a 0 c)
  | tree (rows : List (List TV)) (g o sz c : Nat) (cv : Nat → Nat → Value) (hc : rows.length ≤ c) (hm : c ≤ maxLen) (hsz : ∀ row ∈ rows, row.length = sz) (hF : F g)
      (hcell : ∀ (i j : Nat) (row : List TV) (x : TV), rows[i]? = some row → row[j]? = some x → w.cell? ⟨g, o + (i * sz + j), none⟩ = some (cv i j))
      (htr : ∀ (i j : Nat) (row : List TV) (x : TV), rows[i]? = some row → row[j]? = some x → Tr w F x (cv i j)) :
      Tr w F (.tree rows) (.slice (some ⟨g, o, none⟩) rows.length c)

abbrev Hp := Nat → Option Blk
abbrev Sl := Nat → SV

section
variable (w : World) (F : Nat → Prop) (η : Nat → Value) (hp : Hp)

def CRep : AV → Value → Prop
  | .v t, u => Tr w F t u
  | .mref b, u => match hp b with
    | some (.sl ..) => u = η b
    | _ => u.oneCell' = true
  | .ptr b i o, u => match hp b with
    | some (.sl _ sz _ _) => ∃ g n c, η b = .slice (some ⟨g, 0, none⟩) n c ∧ u = .pointer (some ⟨g, i * sz + o, none⟩)
    | some (.bx ..) => ∃ g, η b = .slice (some ⟨g, 0, none⟩) 1 1 ∧ u = .pointer (some ⟨g, o, none⟩)
    | none => u.oneCell' = true
  | .tptr row o, u => ∃ (g p : Nat) (cv : Nat → Value), F g ∧ u = .pointer (some ⟨g, p + o, none⟩) ∧ ∀ (j : Nat) (x : TV), row[j]? = some x → w.cell? ⟨g, p + j, none⟩ = some (cv j) ∧ Tr w F x (cv j)
  | .one, u => u.oneCell' = true
  | .any, _ => True

def CsRep (l : List AV) (us : List Value) : Prop :=
  us.length = l.length ∧ (∀ y ∈ us, y.oneCell' = true) ∧ ∀ (i : Nat) (x : AV) (y : Value), l[i]? = some x → us[i]? = some y → CRep w F η hp x y

def WRep : WV → Value → Prop
  | .c a, u => CRep w F η hp a u
  | .agg l, u => ∃ us : List Value, u = .agg us.toArray ∧ CsRep w F η hp l us

def SRep : SV → Value → Prop
  | .w x, u => WRep w F η hp x u
  | .tup l, u => ∃ us : List Value, u = .tuple us.toArray ∧ us.length = l.length ∧ ∀ (i : Nat) (x : WV) (y : Value), l[i]? = some x → us[i]? = some y → WRep w F η hp x y

def BRep (b : Nat) : Blk → Prop
  | .sl e sz _ rows => ∃ cells : List Value, w.ownsRow 0 e sz (η b) rows.length cells ∧ (∀ row ∈ rows, row.length = sz) ∧
      ∀ (i j : Nat) (row : List TV) (x : TV), rows[i]? = some row → row[j]? = some x → ∃ u, cells[i * sz + j]? = some u ∧ Tr w F x u
  | .bx e cells => ∃ g, ∃ cs : List Value, η b = .slice (some ⟨g, 0, none⟩) 1 1 ∧ w.heap[g]? = some (.cells cs.toArray e (0, 0)) ∧ CsRep w F η hp cells cs
end

/-- Where a frame stands: the world when it was entered, the blocks that were lent to it. -/
structure Ctx where
  W : World
  bs : List Nat
  F0 : Nat → Prop

/-- The world w is as W was but for the lent blocks and new ones. -/
structure Kept (C : Ctx) (w : World) : Prop where
  os : w.os = C.W.os
  tape : w.tape = C.W.tape
  output : w.output = C.W.output
  size : C.W.heap.size ≤ w.heap.size
  block : ∀ k, k < C.W.heap.size → k ∉ C.bs → w.heap[k]? = C.W.heap[k]?

/-- The table of math/bits stands in block 0 (in a seat whose laws reach it). -/
def TabW (w : World) : Prop := ∀ j, j < 64 → w.cell? ⟨0, j, none⟩ = some (.int .u8 ((Lib.deBruijn64tab.getD j 0 : Nat) : Int))
def Amb (C : Ctx) : Prop := true = true → TabW C.W ∧ ∀ g ∈ C.bs, g ≠ 0
theorem TabW.pos {w : World} (h : TabW w) : 0 < w.heap.size := World.block_lt_of_cell? _ _ (h 0 (by omega))
theorem TabW.keep {w w' : World} (h : TabW w) (hb : w'.heap[0]? = w.heap[0]?) : TabW w' := fun j hj => by rw [World.cell?_of_block (w := w) (w' := w') (a := ⟨0, j, none⟩) hb]; exact h j hj

structure HRep (C : Ctx) (w : World) (η : Nat → Value) (F : Nat → Prop) (hp : Hp) : Prop where
  blocks : ∀ b k, hp b = some k → BRep w F η hp b k
  sep : ∀ b b' k k' g, hp b = some k → hp b' = some k' → b ≠ b' → k.live = true → k'.live = true → (η b).ownBlock = some g → (η b').ownBlock ≠ some g
  liveF : ∀ b k g, hp b = some k → k.live = true → (η b).ownBlock = some g → ¬ F g
  frzF : ∀ b k g, hp b = some k → k.live = false → (η b).ownBlock = some g → F g
  Flt : ∀ g, F g → g < w.heap.size
  fresh : ∀ b k g, hp b = some k → k.live = true → (η b).ownBlock = some g → (C.W.heap.size ≤ g ∧ C.bs.length ≤ b) ∨ C.bs[b]? = some g
  bor : ∀ (j g : Nat), C.bs[j]? = some g → (∃ e cells, hp j = some (.bx e cells)) ∧ (η j).ownBlock = some g
  keep : Kept C w
  Fbd : ∀ g, F g → C.F0 g ∨ C.W.heap.size ≤ g
  amb : Amb C

structure Reps (C : Ctx) (w : World) (η : Nat → Value) (F : Nat → Prop) (sl : Sl) (hp : Hp) (N : Nat) (a : Act) : Prop where
  size : a.tmps.size = N
  defers : a.defers = []
  slots : ∀ t, SRep w F η hp (sl t) (a.tmps.getD t undef)
  heap : HRep C w η F hp

/-! ### What stays -/

theorem Tr.oneCell {w : World} {F : Nat → Prop} {t : TV} {u : Value} (h : Tr w F t u) : u.oneCell' = true := by
  cases h <;> rfl

theorem Tr.keep {w w' : World} {F F' : Nat → Prop} {t : TV} {u : Value} (h : Tr w F t u) (hF : ∀ g, F g → F' g) (hc : ∀ g, F g → ∀ o v, w.cell? ⟨g, o, none⟩ = some v → w'.cell? ⟨g, o, none⟩ = some v) : Tr w' F' t u := by
  induction h with
  | int => exact .int _ _
  | bool => exact .bool _
  | nil => exact .nil
  | empty a c hm => exact .empty a c hm
  | tree rows g o sz c cv h1 h2 h3 h4 h5 h6 ih =>
    exact .tree rows g o sz c cv h1 h2 h3 (hF _ h4) (fun i j row x hi hj => hc _ h4 _ _ (h5 i j row x hi hj)) (fun i j row x hi hj => ih i j row x hi hj)

/-- What is known of a block is known of it in the next heap, or the block is dead there. -/
def hpLe (η η' : Nat → Value) (hp hp' : Hp) : Prop := ∀ b, hp' b = none ∨ (∃ e sz f rows f' rows', hp b = some (.sl e sz f rows) ∧ hp' b = some (.sl e sz f' rows') ∧ η' b = η b) ∨ (∃ e cs cs', hp b = some (.bx e cs) ∧ hp' b = some (.bx e cs') ∧ η' b = η b)

theorem hpLe.refl (η : Nat → Value) (hp : Hp) : hpLe η η hp hp := fun b => by
  cases h : hp b with
  | none => exact .inl rfl
  | some k =>
    cases k with
    | sl e sz f rows => exact .inr (.inl ⟨e, sz, f, rows, f, rows, rfl, rfl, rfl⟩)
    | bx e cs => exact .inr (.inr ⟨e, cs, cs, rfl, rfl, rfl⟩)

def AV.ment (b : Nat) : AV → Bool
  | .mref c => c == b
  | .ptr c _ _ => c == b
  | _ => false
def WV.ment (b : Nat) : WV → Bool
  | .c a => a.ment b
  | .agg l => l.any (AV.ment b)
def SV.ment (b : Nat) : SV → Bool
  | .w x => x.ment b
  | .tup l => l.any (WV.ment b)

section
variable {w w' : World} {F F' : Nat → Prop} {η η' : Nat → Value} {hp hp' : Hp}

/-- What a cell stands for stays, if each block that it mentions is as it was, or dead. -/
theorem CRep.keep {a : AV} {u : Value} (h : CRep w F η hp a u) (hF : ∀ g, F g → F' g) (hc : ∀ g, F g → ∀ o v, w.cell? ⟨g, o, none⟩ = some v → w'.cell? ⟨g, o, none⟩ = some v)
    (hη : ∀ b k, hp b = some k → ∀ e sz f rows, k = .sl e sz f rows → (η b).oneCell' = true)
    (hl : ∀ b, a.ment b = true → hp' b = none ∨ (∃ e sz f rows f' rows', hp b = some (.sl e sz f rows) ∧ hp' b = some (.sl e sz f' rows') ∧ η' b = η b) ∨ (∃ e cs cs', hp b = some (.bx e cs) ∧ hp' b = some (.bx e cs') ∧ η' b = η b)) : CRep w' F' η' hp' a u := by
  cases a with
  | v t => exact Tr.keep h hF hc
  | mref b =>
    simp only [CRep] at h ⊢
    rcases hl b (by simp [AV.ment]) with h0 | ⟨e, sz, f, rows, f', rows', h1, h2, h3⟩ | ⟨e, cs, cs', h1, h2, h3⟩
    · rw [h0]
      cases hb : hp b with
      | none => rw [hb] at h; exact h
      | some k =>
        rw [hb] at h
        cases k with
        | sl e sz f rows => dsimp only at h ⊢; rw [h]; exact hη b _ hb e sz f rows rfl
        | bx e cs => exact h
    · rw [h1] at h; rw [h2]; dsimp only at h ⊢; rw [h, h3]
    · rw [h1] at h; rw [h2]; exact h
  | ptr b i o =>
    simp only [CRep] at h ⊢
    rcases hl b (by simp [AV.ment]) with h0 | ⟨e, sz, f, rows, f', rows', h1, h2, h3⟩ | ⟨e, cs, cs', h1, h2, h3⟩
    · rw [h0]
      cases hb : hp b with
      | none => rw [hb] at h; exact h
      | some k =>
        rw [hb] at h
        cases k with
        | sl e sz f rows => obtain ⟨g, n, c, _, rfl⟩ := h; rfl
        | bx e cs => obtain ⟨g, _, rfl⟩ := h; rfl
    · rw [h1] at h; rw [h2]; dsimp only at h ⊢; rw [h3]; exact h
    · rw [h1] at h; rw [h2]; dsimp only at h ⊢; rw [h3]; exact h
  | tptr row o =>
    obtain ⟨g, p, cv, h1, h2, h3⟩ := h
    exact ⟨g, p, cv, hF _ h1, h2, fun j x hj => ⟨hc _ h1 _ _ (h3 j x hj).1, Tr.keep (h3 j x hj).2 hF hc⟩⟩
  | one => exact h
  | any => exact h

theorem CsRep.keep {l : List AV} {us : List Value} (h : CsRep w F η hp l us) (hF : ∀ g, F g → F' g) (hc : ∀ g, F g → ∀ o v, w.cell? ⟨g, o, none⟩ = some v → w'.cell? ⟨g, o, none⟩ = some v)
    (hη : ∀ b k, hp b = some k → ∀ e sz f rows, k = .sl e sz f rows → (η b).oneCell' = true)
    (hl : ∀ b, l.any (AV.ment b) = true → hp' b = none ∨ (∃ e sz f rows f' rows', hp b = some (.sl e sz f rows) ∧ hp' b = some (.sl e sz f' rows') ∧ η' b = η b) ∨ (∃ e cs cs', hp b = some (.bx e cs) ∧ hp' b = some (.bx e cs') ∧ η' b = η b)) : CsRep w' F' η' hp' l us :=
  ⟨h.1, h.2.1, fun i x y hx hy => CRep.keep (h.2.2 i x y hx hy) hF hc hη fun b hb => hl b (List.any_eq_true.2 ⟨x, List.mem_of_getElem? hx, hb⟩)⟩

theorem WRep.keep {x : WV} {u : Value} (h : WRep w F η hp x u) (hF : ∀ g, F g → F' g) (hc : ∀ g, F g → ∀ o v, w.cell? ⟨g, o, none⟩ = some v → w'.cell? ⟨g, o, none⟩ = some v)
    (hη : ∀ b k, hp b = some k → ∀ e sz f rows, k = .sl e sz f rows → (η b).oneCell' = true)
    (hl : ∀ b, x.ment b = true → hp' b = none ∨ (∃ e sz f rows f' rows', hp b = some (.sl e sz f rows) ∧ hp' b = some (.sl e sz f' rows') ∧ η' b = η b) ∨ (∃ e cs cs', hp b = some (.bx e cs) ∧ hp' b = some (.bx e cs') ∧ η' b = η b)) : WRep w' F' η' hp' x u := by
  cases x with
  | c a => exact CRep.keep h hF hc hη hl
  | agg l => obtain ⟨us, h1, h2⟩ := h; exact ⟨us, h1, h2.keep hF hc hη hl⟩

theorem SRep.keep {x : SV} {u : Value} (h : SRep w F η hp x u) (hF : ∀ g, F g → F' g) (hc : ∀ g, F g → ∀ o v, w.cell? ⟨g, o, none⟩ = some v → w'.cell? ⟨g, o, none⟩ = some v)
    (hη : ∀ b k, hp b = some k → ∀ e sz f rows, k = .sl e sz f rows → (η b).oneCell' = true)
    (hl : ∀ b, x.ment b = true → hp' b = none ∨ (∃ e sz f rows f' rows', hp b = some (.sl e sz f rows) ∧ hp' b = some (.sl e sz f' rows') ∧ η' b = η b) ∨ (∃ e cs cs', hp b = some (.bx e cs) ∧ hp' b = some (.bx e cs') ∧ η' b = η b)) : SRep w' F' η' hp' x u := by
  cases x with
  | w x => exact WRep.keep h hF hc hη hl
  | tup l =>
    obtain ⟨us, h1, h2, h3⟩ := h
    exact ⟨us, h1, h2, fun i x y hx hy => WRep.keep (h3 i x y hx hy) hF hc hη fun b hb => hl b (List.any_eq_true.2 ⟨x, List.mem_of_getElem? hx, hb⟩)⟩

theorem HRep.oneη {C : Ctx} (h : HRep C w η F hp) : ∀ b k, hp b = some k → ∀ e sz f rows, k = .sl e sz f rows → (η b).oneCell' = true := by
  rintro b k hb e sz f rows rfl
  obtain ⟨cells, h1, _⟩ := h.blocks b _ hb
  rcases h1.2 with ⟨h2, _⟩ | ⟨g, cap, cur, h2, _⟩ <;> rw [h2] <;> rfl
end

/-! ### Slots -/
def Sl.put (sl : Sl) (d : Option Tmp) (r : SV) : Sl := fun t => if d = some t then r else sl t
def SV.any : SV := .w (.c .any)
theorem SRep.any (w : World) (F : Nat → Prop) (η : Nat → Value) (hp : Hp) (u : Value) : SRep w F η hp SV.any u := trivial

section
variable {C : Ctx} {w : World} {η : Nat → Value} {F : Nat → Prop} {sl : Sl} {hp : Hp} {N : Nat} {a : Act}
theorem Reps.put (h : Reps C w η F sl hp N a) {d : Option Tmp} {r : SV} {u : Value} (hr : SRep w F η hp r u) (hd : ∀ t, d = some t → t < N) : Reps C w η F (sl.put d r) hp N (a.put d u) := by
  cases d with
  | none =>
    refine ⟨h.size, h.defers, fun t => ?_, h.heap⟩
    simp only [Sl.put, reduceCtorEq, ↓reduceIte, Act.put]
    exact h.slots t
  | some d =>
    refine ⟨by simp [Act.put, h.size], h.defers, fun t => ?_, h.heap⟩
    simp only [Sl.put, Option.some.injEq, Act.put]
    have hlt : d < a.tmps.size := by rw [h.size]; exact hd d rfl
    by_cases hdt : d = t
    · subst hdt
      rw [if_pos rfl, Array.getD_eq_getD_getElem?, Array.getElem?_setIfInBounds, if_pos rfl, if_pos hlt]
      exact hr
    · rw [if_neg hdt, Array.getD_eq_getD_getElem?, Array.getElem?_setIfInBounds, if_neg hdt, ← Array.getD_eq_getD_getElem?]
      exact h.slots t

/-- What an operand stands for. -/
def evalS (sl : Sl) : Operand → SV
  | .tmp t => sl t
  | .const (.int k n) => .w (.c (.v (.int k n)))
  | .const (.bool b) => .w (.c (.v (.bool b)))
  | .const (.slice none 0 0) => .w (.c (.v .nil))
  | .const _ => SV.any
  | .global _ => SV.any
  | .func _ => SV.any

theorem Reps.eval (h : Reps C w η F sl hp N a) (x : Operand) : SRep w F η hp (evalS sl x) (a.eval x) := by
  unfold evalS
  split
  · exact h.slots _
  · exact Tr.int _ _
  · exact Tr.bool _
  · exact Tr.nil
  all_goals exact SRep.any _ _ _ _ _
end

/-! ### Heaps -/
def hpSet (hp : Hp) (b : Nat) (x : Option Blk) : Hp := fun c => if c = b then x else hp c
def hpUpd (hp : Hp) : List (Nat × Option Blk) → Hp
  | [] => hp
  | (b, x) :: r => hpUpd (hpSet hp b x) r
end Go.Proofs.YtjfkdjlmajfljaaDoor
