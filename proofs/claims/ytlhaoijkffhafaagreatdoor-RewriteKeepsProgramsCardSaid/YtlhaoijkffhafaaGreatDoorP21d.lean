/- Which instructions are kept, and the renaming that changes nothing: plain facts. -/
import Derived.Test.YtlhaoijkffhafaaGreatDoorP21c
set_option linter.unusedVariables false
set_option linter.unusedSimpArgs false
namespace Go.Proofs.YtlhaoijkffhafaaGreatDoor.Q
/-- The kept ones among the first m. -/
def keptL (keep : List Bool) : Nat → List Int
  | 0 => []
  | m + 1 => keptL keep m ++ (if atD keep m = true then [(m : Int)] else [])
theorem keptL_length (keep : List Bool) : ∀ m, ((keptL keep m).length : Int) = cntK keep m
  | 0 => rfl
  | m + 1 => by
    have := keptL_length keep m
    unfold keptL cntK
    rw [List.length_append]
    split <;> simp <;> omega
theorem cntK_succ (keep : List Bool) (m : Nat) : cntK keep (m + 1) = cntK keep m + (if atD keep m = true then 1 else 0) := rfl
section
variable {f : AFunc} {keep : List Bool} {nums pl : List Int}
/-- The n-th kept one. -/
theorem kept_at : ∀ {m : Nat} {t : Int}, inN t (cntK keep m) → inN (atD (keptL keep m) t) m ∧ atD keep (atD (keptL keep m) t) = true ∧ cntK keep (atD (keptL keep m) t).toNat = t ∧ atD (codeOf f keep nums pl m) t = retI (renI (atD f.Code (atD (keptL keep m) t)) nums) pl
  | 0, t, h => by
    have h1 := h.1
    have h2 := h.2
    change t < 0 at h2
    omega
  | m + 1, t, h => by
    obtain ⟨h1, h2⟩ := h
    have hl := keptL_length keep m
    have hcl := codeOf_length (f := f) keep nums pl m
    rw [cntK_succ] at h2
    unfold keptL codeOf
    by_cases ht : t < cntK keep m
    · rw [atD_append_left (by omega), atD_append_left (by omega)]
      obtain ⟨⟨q1, q2⟩, q3, q4, q5⟩ := kept_at (m := m) ⟨h1, ht⟩
      exact ⟨⟨q1, by omega⟩, q3, q4, q5⟩
    · split at h2
      · rename_i hk
        have hte : t = cntK keep m := by omega
        rw [if_pos hk, if_pos hk, atD_last (by omega), atD_last (by omega)]
        exact ⟨⟨by omega, by omega⟩, hk, by rw [Int.toNat_natCast, hte], rfl⟩
      · omega
end
/-! ### The renaming that changes nothing -/
section
variable {n i par : Int} {f : AFunc}
end
end Go.Proofs.YtlhaoijkffhafaaGreatDoor.Q
