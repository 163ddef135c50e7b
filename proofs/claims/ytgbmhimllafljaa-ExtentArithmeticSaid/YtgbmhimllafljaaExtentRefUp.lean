/- Contracts of the reference's Up and Add. -/
import Derived.Test.YtgbmhimllafljaaExtentRef
namespace Go.Proofs.Ytgbmhimllafljaa
open Go.RowKit

set_option maxHeartbeats 400000 in
theorem rUp_any (n a : Int) (w : World) :
    Calls Try.prog 24 #[.int .i64 n, .int .i64 a] w fun e w' => e = .returned (.tuple #[.int .i64 (upR n a).1, .int .i64 (upR n a).2]) ∧ w = w' := by
  cases hb : boundB n
  · rw [upR_no (.inl hb)]
    go_enter Try.func24, Try.ntmps24
    go_wp2_with (go_at_call 48; refine (rBound_any _ _).mono ?_; rintro e w' ⟨rfl, rfl⟩)
    go_ret2
    exact ⟨rfl, rfl⟩
  · cases hp : powB a
    · rw [upR_no (.inr hp)]
      go_enter Try.func24, Try.ntmps24
      go_wp2_with (first | (go_at_call 48; refine (rBound_any _ _).mono ?_; rintro e w' ⟨rfl, rfl⟩) | (go_at_call 28; refine (rPower_any _ _).mono ?_; rintro e w' ⟨rfl, rfl⟩))
      go_ret2
      exact ⟨rfl, rfl⟩
    · have h0 := (boundB_iff n).1 hb
      have ha := powB_pos hp
      have hane : ¬ a = 0 := by omega
      have hR := upR_ok hb hp
      have hf := upZ_mod_form (n := n) ha.1
      have hm0 := Int.emod_nonneg n hane
      have hm1 := Int.emod_lt_of_pos n (show 0 < a by omega)
      have hm2 : n % a ≤ n := by
        have h5 := Int.emod_add_mul_ediv n a
        have h6 : 0 ≤ a * (n / a) := Int.mul_nonneg (by omega) (Int.ediv_nonneg h0.1 (by omega))
        omega
      by_cases hm : n % a = 0
      · rw [if_pos hm] at hf
        rw [hf, if_neg (by omega)] at hR
        rw [hR]
        have hmb : (n % a != 0) = false := by rw [hm]; rfl
        clear hR hf hm
        go_enter Try.func24, Try.ntmps24
        go_wp2_with (first | (go_at_call 48; refine (rBound_any _ _).mono ?_; rintro e w' ⟨rfl, rfl⟩) | (go_at_call 28; refine (rPower_any _ _).mono ?_; rintro e w' ⟨rfl, rfl⟩))
        all_goals (go_ret2; exact ⟨rfl, rfl⟩)
      · rw [if_neg hm] at hf
        rw [hf] at hR
        have hmb : (n % a != 0) = true := by simpa using hm
        by_cases hov : 2147483647 < n - n % a + a
        · rw [if_pos hov] at hR
          rw [hR]
          clear hR hf hm
          go_enter Try.func24, Try.ntmps24
          go_wp2_with (first | (go_at_call 48; refine (rBound_any _ _).mono ?_; rintro e w' ⟨rfl, rfl⟩) | (go_at_call 28; refine (rPower_any _ _).mono ?_; rintro e w' ⟨rfl, rfl⟩))
          all_goals (go_ret2; exact ⟨rfl, rfl⟩)
        · rw [if_neg hov] at hR
          rw [hR]
          clear hR hf hm
          go_enter Try.func24, Try.ntmps24
          go_wp2_with (first | (go_at_call 48; refine (rBound_any _ _).mono ?_; rintro e w' ⟨rfl, rfl⟩) | (go_at_call 28; refine (rPower_any _ _).mono ?_; rintro e w' ⟨rfl, rfl⟩))
          all_goals (go_ret2; exact ⟨rfl, rfl⟩)

set_option maxHeartbeats 400000 in
theorem rAdd_any (n a : Int) (w : World) :
    Calls Try.prog 26 #[.int .i64 n, .int .i64 a] w fun e w' => e = .returned (.tuple #[.int .i64 (addR n a).1, .int .i64 (addR n a).2]) ∧ w = w' := by
  cases hb : boundB n
  · rw [addR_no (.inl hb)]
    go_enter Try.func26, Try.ntmps26
    go_wp2_with (go_at_call 48; refine (rBound_any _ _).mono ?_; rintro e w' ⟨rfl, rfl⟩)
    go_ret2
    exact ⟨rfl, rfl⟩
  · cases hp : boundB a
    · rw [addR_no (.inr hp)]
      go_enter Try.func26, Try.ntmps26
      go_wp2_with (go_at_call 48; refine (rBound_any _ _).mono ?_; rintro e w' ⟨rfl, rfl⟩)
      go_ret2
      exact ⟨rfl, rfl⟩
    · have h0 := (boundB_iff n).1 hb
      have h1 := (boundB_iff a).1 hp
      rw [addR_ok hb hp, ite_fst, ite_snd]
      go_enter Try.func26, Try.ntmps26
      go_wp2_with (first | (go_at_call 48; refine (rBound_any _ _).mono ?_; rintro e w' ⟨rfl, rfl⟩))
      all_goals (go_ret2; exact ⟨rfl, rfl⟩)
end Go.Proofs.Ytgbmhimllafljaa
