/- A table of types, held against a program; the words for one operation. -/
import Derived.Test.YtjfkdjlmajfljaaDoorHeapStep
namespace Go.Proofs.YtjfkdjlmajfljaaDoor
open Go.RowKit

inductive Shp where
  | int (k : IntKind)
  | bool
  | slice (e : TypeId)
  | struct (fs : List (Nat × Nat × TypeId))
  | array (n : Nat) (e : TypeId)
  | other

structure Ty where
  shp : Shp
  size : Nat
  bytes : Nat
  zero : List TV

def Ty.isAgg (y : Ty) : Bool := match y.shp with | .struct _ | .array .. => true | _ => false

def TV.val0 : TV → Value
  | .int k n => .int k n
  | .bool b => .bool b
  | .nil => .slice none 0 0
  | .tree _ => undef
def val0B : TV → Value → Bool
  | .int k n, .int k' n' => k == k' && n == n'
  | .bool b, .bool b' => b == b'
  | .nil, .slice none 0 0 => true
  | _, _ => false
theorem val0B_eq {t : TV} {v : Value} (h : val0B t v = true) : v = t.val0 ∧ ∀ rows, t ≠ .tree rows := by
  unfold val0B at h
  split at h
  · simp at h; simp [TV.val0, h]
  · simp at h; simp [TV.val0, h]
  · simp [TV.val0]
  · cases h

def shpB (P : Program) : Option TypeDesc → Shp → Bool
  | some (.int k), .int k' => k == k'
  | some .bool, .bool => true
  | some (.slice e), .slice e' => e == e'
  | some (.struct fs), .struct l => fs.toList.map (fun f => (f.offset, P.cellsOf f.type, f.type)) == l
  | some (.array n e), .array n' e' => n == n' && e == e'
  | some (.struct _), .other => false
  | some (.array ..), .other => false
  | some _, .other => true
  | _, _ => false
def all2 {α β : Type} (p : α → β → Bool) : List α → List β → Bool
  | [], [] => true
  | a :: as, b :: bs => p a b && all2 p as bs
  | _, _ => false
def tyB (P : Program) (t : TypeId) (y : Ty) : Bool :=
  (match P.info? t with
    | none => false
    | some i => i.size == y.size && i.bytes == y.bytes && (y.zero.isEmpty || match i.zero with | some z => all2 val0B y.zero z.cells.toList | none => false)) && shpB P (P.underlying t) y.shp
abbrev Tys := List (TypeId × Ty)
def Tys.get (T : Tys) (t : TypeId) : Option Ty := match T with
  | [] => none
  | (u, y) :: r => match Nat.beq u t with
    | true => some y
    | false => Tys.get r t
def tysB (P : Program) (T : Tys) : Bool := T.all fun (t, y) => tyB P t y

theorem tyB_of {P : Program} {T : Tys} (h : tysB P T = true) {t : TypeId} {y : Ty} (hy : T.get t = some y) : tyB P t y = true := by
  induction T with
  | nil => cases hy
  | cons a r ih =>
    obtain ⟨u, z⟩ := a
    simp only [tysB, List.all_cons, Bool.and_eq_true] at h
    unfold Tys.get at hy
    cases he : Nat.beq u t with
    | true =>
      rw [he] at hy
      have := Nat.eq_of_beq_eq_true he
      subst this
      injection hy with hy
      subst hy
      exact h.1
    | false =>
      rw [he] at hy
      exact ih h.2 hy

theorem all2_val0 {zs : List TV} {vs : List Value} (h : all2 val0B zs vs = true) : vs = zs.map TV.val0 ∧ ∀ z ∈ zs, ∀ rows, z ≠ .tree rows := by
  induction zs generalizing vs with
  | nil => cases vs with
    | nil => exact ⟨rfl, by simp⟩
    | cons => cases h
  | cons z zs ih => cases vs with
    | nil => cases h
    | cons v vs =>
      simp only [all2, Bool.and_eq_true] at h
      obtain ⟨h1, h2⟩ := val0B_eq h.1
      obtain ⟨h3, h4⟩ := ih h.2
      refine ⟨by rw [h1, h3]; rfl, fun x hx => ?_⟩
      rcases List.mem_cons.1 hx with rfl | hx
      · exact h2
      · exact h4 x hx

structure TyFits (P : Program) (t : TypeId) (y : Ty) : Prop where
  info : ∃ i, P.info? t = some i ∧ i.size = y.size ∧ i.bytes = y.bytes ∧ (y.zero ≠ [] → ∃ z, i.zero = some z ∧ z.cells.toList = y.zero.map TV.val0 ∧ ∀ x ∈ y.zero, ∀ rows, x ≠ .tree rows)
  shp : shpB P (P.underlying t) y.shp = true
theorem TyFits.of {P : Program} {T : Tys} (h : tysB P T = true) {t : TypeId} {y : Ty} (hy : T.get t = some y) : TyFits P t y := by
  have := tyB_of h hy
  unfold tyB at this
  rw [Bool.and_eq_true] at this
  refine ⟨?_, this.2⟩
  have h1 := this.1
  split at h1
  · cases h1
  · rename_i i hi
    simp only [Bool.and_eq_true, beq_iff_eq, Bool.or_eq_true, List.isEmpty_iff] at h1
    refine ⟨i, hi, h1.1.1, h1.1.2, fun hz => ?_⟩
    have h2 := h1.2.resolve_left hz
    split at h2
    · rename_i z hz'
      obtain ⟨h3, h4⟩ := all2_val0 h2
      exact ⟨z, hz', h3, h4⟩
    · cases h2

section
variable {P : Program} {t : TypeId} {y : Ty} {w : World}
theorem TyFits.slice (h : TyFits P t y) {e : TypeId} (hs : y.shp = .slice e) : P.underlying t = some (.slice e) := by
  have := h.shp
  rw [hs] at this
  unfold shpB at this
  split at this <;> first | contradiction | skip
  rename_i he heq
  injection heq with heq
  simp at this
  subst heq; subst this
  assumption
theorem TyFits.array (h : TyFits P t y) {n : Nat} {e : TypeId} (hs : y.shp = .array n e) : P.underlying t = some (.array n e) := by
  have := h.shp
  rw [hs] at this
  unfold shpB at this
  split at this <;> first | contradiction | skip
  rename_i he heq
  injection heq with h1 h2
  simp at this
  subst h1; subst h2
  rw [← this.1, ← this.2]
  assumption
theorem TyFits.struct (h : TyFits P t y) {l : List (Nat × Nat × TypeId)} (hs : y.shp = .struct l) : ∃ fs : Array Field, P.underlying t = some (.struct fs) ∧ fs.toList.map (fun f => (f.offset, P.cellsOf f.type, f.type)) = l := by
  have := h.shp
  rw [hs] at this
  unfold shpB at this
  split at this <;> first | contradiction | skip
  rename_i fs l' he heq
  injection heq with heq
  subst heq
  exact ⟨fs, by assumption, by simpa using this⟩
theorem TyFits.bool (h : TyFits P t y) (hs : y.shp = .bool) : P.underlying t = some .bool := by
  have := h.shp
  rw [hs] at this
  unfold shpB at this
  split at this <;> first | contradiction | skip
  assumption
theorem TyFits.int (h : TyFits P t y) {k : IntKind} (hs : y.shp = .int k) : P.underlying t = some (.int k) := by
  have := h.shp
  rw [hs] at this
  unfold shpB at this
  split at this <;> first | contradiction | skip
  rename_i heq
  injection heq with heq
  simp at this
  subst heq; subst this
  assumption
theorem TyFits.run_size (h : TyFits P t y) : (sizeOf t).run P w = .ok y.size w := by
  obtain ⟨i, h1, h2, _⟩ := h.info
  simp [sizeOf, typeInfo, h1, h2]
theorem TyFits.run_under (h : TyFits P t y) : ∃ d, P.underlying t = some d ∧ ((match d with | .struct _ | .array _ _ => true | _ => false) = y.isAgg) := by
  have := h.shp
  unfold Ty.isAgg
  unfold shpB at this
  split at this <;> first | contradiction | (refine ⟨_, by assumption, ?_⟩; simp_all) | skip
theorem TyFits.run_isAgg (h : TyFits P t y) : (isAgg t).run P w = .ok y.isAgg w := by
  obtain ⟨d, h1, h2⟩ := h.run_under
  unfold isAgg
  rw [Sem.run_bind, run_underlying h1 w, ← h2]
  cases d <;> rfl
theorem TyFits.zero (h : TyFits P t y) (hz : y.zero ≠ []) : (∃ z, (zeroValue t).run P w = .ok z w ∧ z.cells.toList = y.zero.map TV.val0) ∧ ∀ x ∈ y.zero, ∀ rows, x ≠ .tree rows := by
  obtain ⟨i, h1, _, _, h4⟩ := h.info
  obtain ⟨z, h5, h6, h7⟩ := h4 hz
  exact ⟨⟨z, by simp [zeroValue, typeInfo, h1, h5], h6⟩, h7⟩
theorem Tr.val0 {F : Nat → Prop} {x : TV} (h : ∀ rows, x ≠ .tree rows) : Tr w F x x.val0 := by
  cases x with
  | int => exact .int _ _
  | bool => exact .bool _
  | nil => exact .nil
  | tree rows => exact absurd rfl (h rows)
end
#print axioms TyFits.of
end Go.Proofs.YtjfkdjlmajfljaaDoor
