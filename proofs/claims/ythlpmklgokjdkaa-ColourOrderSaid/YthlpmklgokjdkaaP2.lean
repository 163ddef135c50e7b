/- Sizes, alignments, arguments: what the functions compute. -/
import Derived.Test.YthlpmklgokjdkaaP1
set_option linter.unusedVariables false
set_option linter.unusedSimpArgs false
namespace Go.Proofs.Ythlpmklgokjdkaa.Q
theorem take_atD {α : Type} [Inhabited α] {l : List α} {k : Int} (h : 0 ≤ k ∧ k < (l.length : Int)) : l.take (k + 1).toNat = l.take k.toNat ++ [atD l k] := by
  have h1 : k.toNat < l.length := by omega
  rw [show (k + 1).toNat = k.toNat + 1 by omega, List.take_succ_eq_append_getElem h1]
  congr 1
  have := atD_nat h1
  rw [Int.toNat_of_nonneg h.1] at this
  rw [this]
theorem take_all {α : Type} {l : List α} {k : Int} (h : (l.length : Int) ≤ k) : l.take k.toNat = l := List.take_of_length_le (by omega)
def sizeB (n : Int) : Bool := decide (n = 1 ∨ n = 2 ∨ n = 4 ∨ n = 8 ∨ n = 16)
/-- Powers of two, to the greatest alignment. -/
def powL : Nat → Int → List Int
  | 0, _ => []
  | n + 1, k => k :: powL n (k * 2)
def powB (n : Int) : Bool := decide (n ∈ powL 25 1)
theorem powB_small {n : Int} (h : n = 1 ∨ n = 2 ∨ n = 4 ∨ n = 8 ∨ n = 16 ∨ n = 32 ∨ n = 64) : powB n = true := by
  rcases h with h | h | h | h | h | h | h <;> subst h <;> decide
def slotB (s : ASlot) : Bool := sizeB s.Size && powB s.Align
def slotsE (s : List ASlot) : Int := if 512 < s.length then 3 else if s.all slotB then 0 else 5
theorem rightS.slotB {s : ASlot} (h : rightS s) : slotB s = true := by
  unfold Go.Proofs.Ythlpmklgokjdkaa.Q.slotB
  rw [powB_small h.2]
  simp [sizeB, h.1]
end Go.Proofs.Ythlpmklgokjdkaa.Q
