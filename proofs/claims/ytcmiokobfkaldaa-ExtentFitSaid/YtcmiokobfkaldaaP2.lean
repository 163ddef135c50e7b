/- Sizes, alignments, arguments: what the functions compute. -/
import Derived.Test.YtcmiokobfkaldaaP1
set_option linter.unusedVariables false
set_option linter.unusedSimpArgs false
namespace Go.Proofs.Ytcmiokobfkaldaa.Q
/-- Powers of two, to the greatest alignment. -/
def powL : Nat → Int → List Int
  | 0, _ => []
  | n + 1, k => k :: powL n (k * 2)
def powB (n : Int) : Bool := decide (n ∈ powL 25 1)
theorem power_sp (n : Int) : WP (r03_Power n) (· = powB n) := by
  unfold r03_Power powB
  refine WP.loop (fun j => ∃ m : Nat, m ≤ 25 ∧ j = 2 ^ (25 - m) ∧ (n ∈ powL 25 1 ↔ n ∈ powL m j)) (fun j => (33554433 - j).toNat) ⟨25, by omega, rfl, Iff.rfl⟩ ?_
  rintro again j ⟨m, hm, hj, hi⟩ ih
  have hj0 : 0 < j := by rw [hj]; exact Int.pow_pos (by omega)
  refine WP.bif (fun wh => ?_) (fun wh => ?_) <;> (try simp only [wpH, ne_eq] at wh)
  · obtain ⟨m', rfl⟩ : ∃ m', m = m' + 1 := by
      cases m with
      | zero => exfalso; rw [hj] at wh; revert wh; decide
      | succ m' => exact ⟨m', rfl⟩
    (repeat' (first | (refine WP.chk (by (first | omega | (simp only [okI, List.length_append, List.length_cons, List.length_nil, length_setD, length_repD] at *; omega))) fun _ => ?_) | ((refine WP.bif (fun wh => ?_) (fun wh => ?_)) <;> (try simp only [wpH, ne_eq] at wh) <;> (try (exfalso; omega)))))
    · refine WP.ret ?_
      rw [eq_comm, decide_eq_true_eq, hi]
      rw [wh]
      exact List.mem_cons_self
    · refine ih _ ⟨m', by omega, ?_, ?_⟩ (by omega)
      · rw [hj, ← Int.pow_succ]; congr 1; omega
      · rw [hi]
        exact ⟨fun q => (List.mem_cons.1 q).resolve_left wh, fun q => List.mem_cons_of_mem _ q⟩
  · have hm0 : m = 0 := by
      have : m = 0 ∨ 1 ≤ m := by omega
      rcases this with h | h
      · exact h
      · exfalso
        have h2 : 2 ^ (25 - m) ≤ 2 ^ 24 := Nat.pow_le_pow_right (by omega) (by omega)
        have h3 : (2 : Int) ^ (25 - m) = ((2 ^ (25 - m) : Nat) : Int) := by rw [Int.natCast_pow]; rfl
        rw [← hj] at h3
        omega
    subst hm0
    refine WP.ret ?_
    rw [eq_comm, decide_eq_false_iff_not, hi]
    exact List.not_mem_nil
end Go.Proofs.Ytcmiokobfkaldaa.Q
