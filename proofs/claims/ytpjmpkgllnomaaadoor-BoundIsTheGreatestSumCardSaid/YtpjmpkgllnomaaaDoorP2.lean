/- Sizes, alignments, arguments: what the functions compute. -/
import Derived.Test.YtpjmpkgllnomaaaDoorP1
set_option linter.unusedVariables false
set_option linter.unusedSimpArgs false
namespace Go.Proofs.YtpjmpkgllnomaaaDoor.Q
theorem take_atD {α : Type} [Inhabited α] {l : List α} {k : Int} (h : 0 ≤ k ∧ k < (l.length : Int)) : l.take (k + 1).toNat = l.take k.toNat ++ [atD l k] := by
  have h1 : k.toNat < l.length := by omega
  rw [show (k + 1).toNat = k.toNat + 1 by omega, List.take_succ_eq_append_getElem h1]
  congr 1
  have := atD_nat h1
  rw [Int.toNat_of_nonneg h.1] at this
  rw [this]
theorem take_all {α : Type} {l : List α} {k : Int} (h : (l.length : Int) ≤ k) : l.take k.toNat = l := List.take_of_length_le (by omega)
end Go.Proofs.YtpjmpkgllnomaaaDoor.Q
