/- Maps as lists of keys and elements, in the order in which the keys came in. No program in sight. -/
import Derived.Test.YtechhjednmnmpaaPureB
namespace Go.Proofs.Ytechhjednmnmpaa.Q
section
variable {κ α : Type} [DecidableEq κ]
def putM : List (κ × α) → κ → α → List (κ × α)
  | [], n, a => [(n, a)]
  | p :: r, n, a => if p.1 = n then (n, a) :: r else p :: putM r n a
def getM : List (κ × α) → κ → α → α
  | [], _, d => d
  | p :: r, n, d => if p.1 = n then p.2 else getM r n d
/-- The place of a key; behind the last one if there is none. -/
def idxM : List (κ × α) → κ → Nat
  | [], _ => 0
  | p :: r, n => if p.1 = n then 0 else idxM r n + 1
/-- The map with an entry for this key. -/
def entM : List (κ × α) → κ → α → List (κ × α)
  | [], n, d => [(n, d)]
  | p :: r, n, d => if p.1 = n then p :: r else p :: entM r n d
/-- Another element at a place. -/
def storM : List (κ × α) → Nat → α → List (κ × α)
  | [], _, _ => []
  | p :: r, 0, a => (p.1, a) :: r
  | p :: r, i + 1, a => p :: storM r i a
theorem storM_entM (l : List (κ × α)) (n : κ) (d a : α) : storM (entM l n d) (idxM l n) a = putM l n a := by
  induction l with
  | nil => rfl
  | cons p r ih =>
    unfold entM idxM putM
    by_cases h : p.1 = n
    · rw [if_pos h, if_pos h, if_pos h]; simp [storM, h]
    · rw [if_neg h, if_neg h, if_neg h]; simp [storM, ih]
theorem getM_put (l : List (κ × α)) (n m : κ) (a d : α) : getM (putM l n a) m d = if n = m then a else getM l m d := by
  induction l with
  | nil => simp [putM, getM]
  | cons p r ih =>
    unfold putM
    by_cases h : p.1 = n
    · rw [if_pos h]
      by_cases hm : n = m
      · simp [getM, hm]
      · have : ¬ p.1 = m := fun e => hm (h.symm.trans e)
        simp [getM, hm, this]
    · rw [if_neg h]
      by_cases hm : p.1 = m
      · have : ¬ n = m := fun e => h (hm.trans e.symm)
        simp [getM, hm, this]
      · simp [getM, hm, ih]
end
end Go.Proofs.Ytechhjednmnmpaa.Q
