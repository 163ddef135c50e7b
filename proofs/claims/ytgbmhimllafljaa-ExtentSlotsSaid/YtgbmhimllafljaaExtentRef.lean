/- Contracts of the reference for chapter 3 on numbers, and of the draws' Mod. -/
import Derived.Test.YtgbmhimllafljaaExtent
namespace Go.Proofs.Ytgbmhimllafljaa
open Go.RowKit

set_option maxHeartbeats 400000 in
theorem rBound_any (n : Int) (w : World) :
    Calls Try.prog 48 #[.int .i64 n] w fun e w' => e = .returned (.bool (boundB n)) ∧ w = w' := by
  go_enter Try.func48, Try.ntmps48
  go_wp2
  all_goals (go_ret; exact ⟨ret_bool (by simp [boundB]; try omega), rfl⟩)

theorem pow_step (j : Nat) : ((2 ^ j : Nat) : Int) * 2 = ((2 ^ (j + 1) : Nat) : Int) := by rw [Nat.pow_succ]; push_cast; rfl

set_option maxHeartbeats 400000 in
theorem rPower_any (n : Int) (w : World) :
    Calls Try.prog 28 #[.int .i64 n] w fun e w' => e = .returned (.bool (powB n)) ∧ w = w' := by
  go_enter Try.func28, Try.ntmps28
  go_wp2
  go_loop [3] (fun i => ∃ j : Nat, j ≤ 25 ∧ i = .int .i64 ((2 ^ j : Nat) : Int) ∧ ∀ i, i < j → n ≠ ((2 ^ i : Nat) : Int)) (fun i => (33554432 - (intOf i)).toNat)
  case atStart => exact ⟨0, by omega, rfl, fun i hi => by omega⟩
  case round =>
    obtain ⟨j, hj, rfl, hno⟩ := hrel
    have HN := hide hno
    clear hno
    have h1 : 1 ≤ 2 ^ j := Nat.one_le_two_pow
    have h2 : (2 : Nat) ^ j ≤ 2 ^ 25 := pow_le_pow_iff2.2 hj
    have hs := hide (pow_step j)
    have hp : 2 ^ (j + 1) = 2 * 2 ^ j := by rw [Nat.pow_succ]; omega
    have HP := hide hp
    clear hp
    generalize hx : ((2 ^ j : Nat) : Int) = x at *
    have hX := hide hx
    have hx1 : 1 ≤ x := by omega
    have hx2 : x ≤ 33554432 := by omega
    clear hx h1 h2
    by_cases hle : x ≤ 16777216
    · by_cases he : n = x
      · subst he
        go_wp2
        go_ret
        refine ⟨ret_bool ?_, rfl⟩
        symm
        rw [powB_iff]
        refine ⟨j, ?_, hX.out.symm⟩
        have := hX.out
        apply pow_le_pow_iff2.1
        omega
      · have heb : (n == x) = false := by simpa using he
        have HE := hide he
        clear he
        go_wp2
        go_round
        case rel =>
          refine ⟨j + 1, ?_, by rw [← hs.out], ?_⟩
          · have := hX.out
            have : j ≤ 24 := by apply pow_le_pow_iff2.1; omega
            omega
          · intro i hi
            by_cases hij : i = j
            · subst hij; rw [hX.out]; exact HE.out
            · exact HN.out i (by omega)
        case measure => simp [intOf]; omega
    · go_wp2
      go_ret
      refine ⟨ret_bool ?_, rfl⟩
      symm
      rw [← Bool.not_eq_true, powB_iff]
      rintro ⟨i, hi, hni⟩
      refine HN.out i ?_ hni
      have h3 : (2 : Nat) ^ i ≤ 2 ^ 24 := pow_le_pow_iff2.2 hi
      have := hX.out
      have h4 : ¬ 2 ^ j ≤ 2 ^ i := by omega
      rw [pow_le_pow_iff2] at h4
      omega
end Go.Proofs.Ytgbmhimllafljaa
