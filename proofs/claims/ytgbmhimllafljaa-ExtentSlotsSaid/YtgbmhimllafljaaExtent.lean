/- Contracts of package extent's functions on numbers and of its reference. -/
import Derived.Test.YtgbmhimllafljaaRows
import Derived.Test.YtgbmhimllafljaaNum
import Derived.WalkKit
import Derived.WalkSpells
import Derived.WalkLawsBesides
namespace Go.Proofs.Ytgbmhimllafljaa
open Go.RowKit

theorem ret_bool {a b : Bool} (h : a = b) : Ending.returned (.bool a) = .returned (.bool b) := by rw [h]
theorem ret_two {k l : IntKind} {a b c d : Int} (h : a = b) (h' : c = d) : Ending.returned (.tuple #[.int k a, .int l c]) = .returned (.tuple #[.int k b, .int l d]) := by rw [h, h']

set_option maxHeartbeats 400000 in
theorem bound_any (n : Int) (w : World) :
    Calls Try.prog 45 #[.int .i64 n] w fun e w' => e = .returned (.bool (boundB n)) ∧ w = w' := by
  go_enter Try.func45, Try.ntmps45
  go_wp2
  all_goals (go_ret; exact ⟨ret_bool (by simp [boundB]; try omega), rfl⟩)

set_option maxHeartbeats 400000 in
theorem power_any (n : Int) (w : World) :
    Calls Try.prog 27 #[.int .i64 n] w fun e w' => e = .returned (.bool (powB n)) ∧ w = w' := by
  go_enter Try.func27, Try.ntmps27
  go_wp2
  all_goals (go_ret; exact ⟨ret_bool (by simp [powB]; try omega), rfl⟩)

set_option maxHeartbeats 400000 in
theorem limited_any (n : Int) (w : World) :
    Calls Try.prog 46 #[.int .i64 n] w fun e w' => (e = .returned (.tuple #[.int .i64 (if 2147483647 < n then 0 else n), .int .i64 (if 2147483647 < n then 9 else 0)])) ∧ w = w' := by
  go_enter Try.func46, Try.ntmps46
  go_wp2
  all_goals (go_ret2; exact ⟨ret_two (by first | rfl | (split <;> omega)) (by first | rfl | (split <;> omega)), rfl⟩)

set_option maxHeartbeats 400000 in
theorem up_any (n a : Int) (w : World) (h0 : 0 ≤ n) (h1 : n ≤ 4611686018427387904) (ha : powB a = true) :
    Calls Try.prog 47 #[.int .i64 n, .int .i64 a] w fun e w' => e = .returned (.int .i64 (upZ n a)) ∧ w = w' := by
  have hb := powB_pos ha
  have hu := upZ_eq h0 h1 ha
  have HU := hide hu
  clear hu ha
  go_enter Try.func47, Try.ntmps47
  go_wp2
  go_ret
  exact ⟨by rw [← HU.out]; rfl, rfl⟩

theorem upR_ok {n a : Int} (h : boundB n = true) (h' : powB a = true) : upR n a = if 2147483647 < upZ n a then (0, 9) else (upZ n a, 0) := by simp [upR, h, h']
theorem upR_no {n a : Int} (h : boundB n = false ∨ powB a = false) : upR n a = (0, 4) := by rcases h with h | h <;> simp [upR, h]
theorem addR_ok {n a : Int} (h : boundB n = true) (h' : boundB a = true) : addR n a = if 2147483647 < n + a then (0, 9) else (n + a, 0) := by simp [addR, h, h']
theorem addR_no {n a : Int} (h : boundB n = false ∨ boundB a = false) : addR n a = (0, 4) := by rcases h with h | h <;> simp [addR, h]
theorem ite_fst {c : Prop} [Decidable c] {a b d f : Int} : (if c then (a, b) else (d, f)).1 = if c then a else d := by split <;> rfl
theorem ite_snd {c : Prop} [Decidable c] {a b d f : Int} : (if c then (a, b) else (d, f)).2 = if c then b else f := by split <;> rfl

set_option maxHeartbeats 400000 in
theorem Up_any (n a : Int) (w : World) :
    Calls Try.prog 15 #[.int .i64 n, .int .i64 a] w fun e w' => e = .returned (.tuple #[.int .i64 (upR n a).1, .int .i64 (upR n a).2]) ∧ w = w' := by
  cases hb : boundB n
  · rw [upR_no (.inl hb)]
    go_enter Try.func15, Try.ntmps15
    go_wp2_with (go_at_call 45; refine (bound_any _ _).mono ?_; rintro e w' ⟨rfl, rfl⟩)
    go_ret2
    exact ⟨rfl, rfl⟩
  · cases hp : powB a
    · rw [upR_no (.inr hp)]
      go_enter Try.func15, Try.ntmps15
      go_wp2_with (first | (go_at_call 45; refine (bound_any _ _).mono ?_; rintro e w' ⟨rfl, rfl⟩) | (go_at_call 27; refine (power_any _ _).mono ?_; rintro e w' ⟨rfl, rfl⟩))
      all_goals (go_ret2; exact ⟨rfl, rfl⟩)
    · have h0 := (boundB_iff n).1 hb
      rw [upR_ok hb hp, ite_fst, ite_snd]
      go_enter Try.func15, Try.ntmps15
      go_wp2_with (first | (go_at_call 45; refine (bound_any _ _).mono ?_; rintro e w' ⟨rfl, rfl⟩) | (go_at_call 27; refine (power_any _ _).mono ?_; rintro e w' ⟨rfl, rfl⟩) | (go_at_call 47; refine (up_any _ _ _ h0.1 (by omega) hp).mono ?_; rintro e w' ⟨rfl, rfl⟩) | (go_at_call 46; refine (limited_any _ _).mono ?_; rintro e w' ⟨rfl, rfl⟩))
      all_goals (go_ret2; exact ⟨rfl, rfl⟩)

set_option maxHeartbeats 400000 in
theorem Add_any (n a : Int) (w : World) :
    Calls Try.prog 25 #[.int .i64 n, .int .i64 a] w fun e w' => e = .returned (.tuple #[.int .i64 (addR n a).1, .int .i64 (addR n a).2]) ∧ w = w' := by
  cases hb : boundB n
  · rw [addR_no (.inl hb)]
    go_enter Try.func25, Try.ntmps25
    go_wp2_with (go_at_call 45; refine (bound_any _ _).mono ?_; rintro e w' ⟨rfl, rfl⟩)
    go_ret2
    exact ⟨rfl, rfl⟩
  · cases hp : boundB a
    · rw [addR_no (.inr hp)]
      go_enter Try.func25, Try.ntmps25
      go_wp2_with (go_at_call 45; refine (bound_any _ _).mono ?_; rintro e w' ⟨rfl, rfl⟩)
      all_goals (go_ret2; exact ⟨rfl, rfl⟩)
    · have h0 := (boundB_iff n).1 hb
      have h1 := (boundB_iff a).1 hp
      rw [addR_ok hb hp, ite_fst, ite_snd]
      go_enter Try.func25, Try.ntmps25
      go_wp2_with (first | (go_at_call 45; refine (bound_any _ _).mono ?_; rintro e w' ⟨rfl, rfl⟩) | (go_at_call 46; refine (limited_any _ _).mono ?_; rintro e w' ⟨rfl, rfl⟩))
      all_goals (go_ret2; exact ⟨rfl, rfl⟩)

end Go.Proofs.Ytgbmhimllafljaa
