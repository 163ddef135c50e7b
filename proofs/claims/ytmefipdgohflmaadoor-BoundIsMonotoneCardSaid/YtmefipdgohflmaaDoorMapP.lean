/- Maps as lists of keys and elements, in the order in which the keys came in. No program in sight. -/
import Derived.Test.YtmefipdgohflmaaDoorPureB
namespace Go.Proofs.YtmefipdgohflmaaDoor.Q
section
variable {κ α : Type} [DecidableEq κ]
def putM : List (κ × α) → κ → α → List (κ × α)
  | [], n, a => [(n, a)]
  | p :: r, n, a => if p.1 = n then (n, a) :: r else p :: putM r n a
def getM : List (κ × α) → κ → α → α
  | [], _, d => d
  | p :: r, n, d => if p.1 = n then p.2 else getM r n d
/-- The place of a key; behind the last one if there is none. -/
def idxM : List (κ × α) → κ → Nat
  | [], _ => 0
  | p :: r, n => if p.1 = n then 0 else idxM r n + 1
/-- The map with an entry for this key. -/
def entM : List (κ × α) → κ → α → List (κ × α)
  | [], n, d => [(n, d)]
  | p :: r, n, d => if p.1 = n then p :: r else p :: entM r n d
/-- Another element at a place. -/
def storM : List (κ × α) → Nat → α → List (κ × α)
  | [], _, _ => []
  | p :: r, 0, a => (p.1, a) :: r
  | p :: r, i + 1, a => p :: storM r i a
theorem storM_entM (l : List (κ × α)) (n : κ) (d a : α) : storM (entM l n d) (idxM l n) a = putM l n a := by
  induction l with
  | nil => rfl
  | cons p r ih =>
    unfold entM idxM putM
    by_cases h : p.1 = n
    · rw [if_pos h, if_pos h, if_pos h]; simp [storM, h]
    · rw [if_neg h, if_neg h, if_neg h]; simp [storM, ih]
theorem getM_put (l : List (κ × α)) (n m : κ) (a d : α) : getM (putM l n a) m d = if n = m then a else getM l m d := by
  induction l with
  | nil => simp [putM, getM]
  | cons p r ih =>
    unfold putM
    by_cases h : p.1 = n
    · rw [if_pos h]
      by_cases hm : n = m
      · simp [getM, hm]
      · have : ¬ p.1 = m := fun e => hm (h.symm.trans e)
        simp [getM, hm, this]
    · rw [if_neg h]
      by_cases hm : p.1 = m
      · have : ¬ n = m := fun e => h (hm.trans e.symm)
        simp [getM, hm, this]
      · simp [getM, hm, ih]
end
/-- A step of a range over a map of n entries: over, if all have been seen; else any entry that has not been seen. -/
@[irreducible] def M.nxt {α : Type} (n : Nat) (seen : List Nat) (m1 : M α) (m2 : Nat → M α) : M α := fun r => ((∀ i, i < n → i ∈ seen) → m1 r) ∧ ∀ i, i < n → i ∉ seen → m2 i r
theorem M.nxt_iff {α : Type} {n : Nat} {seen : List Nat} {m1 : M α} {m2 : Nat → M α} {r : α} : M.nxt n seen m1 m2 r ↔ ((∀ i, i < n → i ∈ seen) → m1 r) ∧ ∀ i, i < n → i ∉ seen → m2 i r := by unfold M.nxt; exact Iff.rfl
theorem WP.nxt {α : Type} {n : Nat} {seen : List Nat} {m1 : M α} {m2 : Nat → M α} {Q : α → Prop} (c : α) (h1 : (∀ i, i < n → i ∈ seen) → WP m1 (· = c)) (h2 : ∀ i, i < n → i ∉ seen → WP (m2 i) (· = c)) (hq : Q c) : WP (M.nxt n seen m1 m2) Q := by
  refine ⟨c, M.nxt_iff.2 ⟨fun h => ?_, fun i hi hs => ?_⟩, hq⟩
  · obtain ⟨r, q1, rfl⟩ := h1 h; exact q1
  · obtain ⟨r, q1, rfl⟩ := h2 i hi hs; exact q1
end Go.Proofs.YtmefipdgohflmaaDoor.Q
