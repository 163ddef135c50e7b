/- Rounding up, adding: what package extent and its reference compute. -/
import Derived.Test.YthlpmklgokjdkaaP2
import Derived.Test.YthlpmklgokjdkaaBase
set_option linter.unusedVariables false
set_option linter.unusedSimpArgs false
namespace Go.Proofs.Ythlpmklgokjdkaa.Q
theorem mem_powL {n : Int} : ∀ {m : Nat} {k : Int}, n ∈ powL m k ↔ ∃ j : Nat, j < m ∧ n = k * 2 ^ j
  | 0, k => by simp [powL]
  | m + 1, k => by
    unfold powL
    rw [List.mem_cons, mem_powL]
    constructor
    · rintro (rfl | ⟨j, h1, rfl⟩)
      · exact ⟨0, by omega, by simp⟩
      · exact ⟨j + 1, by omega, by rw [Int.pow_succ, Int.mul_assoc, Int.mul_comm 2]⟩
    · rintro ⟨j, h1, rfl⟩
      cases j with
      | zero => exact .inl (by simp)
      | succ j => exact .inr ⟨j, by omega, by rw [Int.pow_succ, Int.mul_assoc, Int.mul_comm 2]⟩
theorem powB_eq (n : Int) : powB n = Go.Proofs.Ythlpmklgokjdkaa.powB n := by
  rw [Bool.eq_iff_iff, Go.Proofs.Ythlpmklgokjdkaa.powB_iff]
  unfold powB
  rw [decide_eq_true_eq, mem_powL]
  constructor
  · rintro ⟨j, h1, h2⟩; exact ⟨j, by omega, by rw [h2, Int.one_mul, Int.natCast_pow]; rfl⟩
  · rintro ⟨j, h1, h2⟩; exact ⟨j, by omega, by rw [h2, Int.one_mul, Int.natCast_pow]; rfl⟩
theorem powB_bd {n : Int} (h : powB n = true) : 1 ≤ n ∧ n ≤ 16777216 := powB_pos (by rw [← powB_eq]; exact h)
theorem ebound_sp (n : Int) : WP (extent_bound n) (· = boundB n) := by
  unfold extent_bound boundB
  (repeat' (first | (refine WP.chk (by (first | omega | (simp only [okI, List.length_append, List.length_cons, List.length_nil, length_setD, length_repD] at *; omega))) fun _ => ?_) | ((refine WP.bif (fun wh => ?_) (fun wh => ?_)) <;> (try simp only [wpH, ne_eq] at wh) <;> (try (exfalso; omega)))))
  · exact WP.ret (by simp [wh])
  · exact WP.ret (by simp; omega)
theorem epower_sp (n : Int) : WP (extent_Power n) (· = powB n) := by
  unfold extent_Power
  rw [powB_eq]
  unfold Go.Proofs.Ythlpmklgokjdkaa.powB
  (repeat' (first | (refine WP.chk (by (first | omega | (simp only [okI, List.length_append, List.length_cons, List.length_nil, length_setD, length_repD] at *; omega))) fun _ => ?_) | ((refine WP.bif (fun wh => ?_) (fun wh => ?_)) <;> (try simp only [wpH, ne_eq] at wh) <;> (try (exfalso; omega)))))
  · refine WP.ret ?_
    have h1 : 1 ≤ n := by omega
    have h2 : n ≤ 16777216 := by omega
    simp only [h1, h2, decide_true, Bool.true_and]
    rfl
  · exact WP.ret (by simp; omega)
  · exact WP.ret (by simp; omega)
theorem eup_sp (n a : Int) (h0 : 0 ≤ n) (h1 : n ≤ 2147483647) (ha : powB a = true) : WP (extent_up n a) (· = upZ n a) := by
  have hb := powB_bd ha
  unfold extent_up
  (repeat' (first | (refine WP.chk (by (first | omega | (simp only [okI, List.length_append, List.length_cons, List.length_nil, length_setD, length_repD] at *; omega))) fun _ => ?_) | ((refine WP.bif (fun wh => ?_) (fun wh => ?_)) <;> (try simp only [wpH, ne_eq] at wh) <;> (try (exfalso; omega)))))
  exact WP.ret (upZ_eq h0 (by omega) (by rw [← powB_eq]; exact ha))
end Go.Proofs.Ythlpmklgokjdkaa.Q
