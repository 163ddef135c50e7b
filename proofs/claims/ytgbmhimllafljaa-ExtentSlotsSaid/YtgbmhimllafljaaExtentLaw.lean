/- The walks of the statements ExtentUpIsLeast and ExtentArithmetic. -/
import Derived.Test.YtgbmhimllafljaaExtentRef
namespace Go.Proofs.Ytgbmhimllafljaa
open Go.RowKit

theorem tmod_mod (x n : Int) : (x.tmod n + n) % n = x % n := by
  rw [Int.add_emod_right, Int.emod_eq_emod_iff_emod_sub_eq_zero]
  have := Int.mul_tdiv_add_tmod x n
  have e : x.tmod n - x = n * (- (x.tdiv n)) := by rw [Int.mul_neg]; omega
  rw [e]; simp

set_option maxHeartbeats 400000 in
theorem Mod_any (x n : Int) (w : World) (h1 : 1 ≤ n) (h2 : n ≤ 4611686018427387904) :
    Calls Try.prog 14 #[.int .i64 x, .int .i64 n] w fun e w' => e = .returned (.int .i64 (x % n)) ∧ w = w' := by
  have ht := tmod_mod x n
  have hl := Int.tmod_lt_of_pos x (show 0 < n by omega)
  have hg : -n < x.tmod n := by
    have := Int.tmod_lt_of_pos (-x) (show 0 < n by omega)
    rw [Int.neg_tmod] at this; omega
  have HT := hide ht
  clear ht
  go_enter Try.func14, Try.ntmps14
  go_wp2
  go_ret
  exact ⟨by rw [← HT.out]; rfl, rfl⟩

set_option maxHeartbeats 400000 in
theorem awake03 (w : World) : Calls Try.prog 13 #[] w fun e w' => e = .returned (.bool true) ∧ w = w' := by
  have h : upR 17 16 = (32, 0) := by decide +kernel
  have H := hide h
  clear h
  go_enter Try.func13, Try.ntmps13
  go_wp2_with (first | (go_at_call 15; refine (Up_any _ _ _).mono ?_; rw [H.out]; rintro e w' ⟨rfl, rfl⟩))
  all_goals (go_ret; exact ⟨rfl, rfl⟩)

/- 1 << (k % m), m at most 26 -/
theorem shl_pow (k m : Int) (hm : 1 ≤ m) (hm' : m ≤ 26) : ∃ j : Nat, (j : Int) < m ∧ wrap64 (2 ^ (k % m).toNat) = ((2 ^ j : Nat) : Int) := by
  have h1 := Int.emod_nonneg k (show m ≠ 0 by omega)
  have h2 := Int.emod_lt_of_pos k (show 0 < m by omega)
  refine ⟨(k % m).toNat, by omega, ?_⟩
  have h3 : (2 : Nat) ^ (k % m).toNat ≤ 2 ^ 25 := pow_le_pow_iff2.2 (by omega)
  have h4 : ((2 : Int) ^ (k % m).toNat) = ((2 ^ (k % m).toNat : Nat) : Int) := by push_cast; rfl
  rw [h4]
  generalize (2 : Nat) ^ (k % m).toNat = p at *
  unfold wrap64
  omega

set_option maxHeartbeats 800000 in
theorem walk_ExtentUpIsLeast (n k : Int) (w : World) (hk : 0 ≤ k) (hk' : k ≤ 255) :
    Calls Try.prog 4 #[.int .i64 n, .int .u8 k] w fun e w' => e = .returned (.bool true) ∧ w = w' := by
  obtain ⟨j, hj, ha⟩ := shl_pow k 25 (by omega) (by omega)
  have hp : powB (wrap64 (2 ^ (k % 25).toNat)) = true := by rw [ha]; exact (powB_iff _).2 ⟨j, by omega, rfl⟩
  have hx0 := Int.emod_nonneg n (show (2147483647 : Int) ≠ 0 by omega)
  have hx1 := Int.emod_lt_of_pos n (show (0 : Int) < 2147483647 by omega)
  clear ha hj
  go_enter Try.func4, Try.ntmps4
  go_wp2_with (first | (go_at_call 13; refine (awake03 _).mono ?_; rintro e w' ⟨rfl, rfl⟩) | (go_at_call 14; refine (Mod_any _ _ _ (by omega) (by omega)).mono ?_; rintro e w' ⟨rfl, rfl⟩) | (fail))
  generalize wrap64 (2 ^ (k % 25).toNat) = a at *
  generalize n % 2147483647 = x at *
  have hb : boundB x = true := (boundB_iff x).2 ⟨hx0, by omega⟩
  have ha := powB_pos hp
  have hlo := upZ_le (n := x) ha.1
  have hhi := upZ_lt (n := x) ha.1
  have hU := upR_ok hb hp
  by_cases hov : 2147483647 < upZ x a
  · rw [if_pos hov] at hU
    have HU := hide hU
    clear hU hp hb
    refine (Up_any _ _ _).mono ?_
    rw [HU.out]
    rintro e w' ⟨rfl, rfl⟩
    have hd : 2147483647 - a < x := by omega
    go_wp2
    go_ret
    exact ⟨rfl, rfl⟩
  · rw [if_neg hov] at hU
    have hm := upZ_mod x a
    have hid : upZ (upZ x a) a = upZ x a := upZ_id ha.1 (upZ_dvd x a)
    have hb2 : boundB (upZ x a) = true := (boundB_iff _).2 ⟨by omega, by omega⟩
    have hU2 := upR_ok hb2 hp
    rw [hid, if_neg hov] at hU2
    have HU := hide hU
    have HU2 := hide hU2
    have HM := hide hm
    clear hU hp hb hU2 hid hb2 hm
    refine (Up_any _ _ _).mono ?_
    rw [HU.out]
    rintro e w' ⟨rfl, rfl⟩
    generalize upZ x a = u at *
    go_wp2_with fail
    refine (Up_any _ _ _).mono ?_
    rw [HU2.out]
    rintro e w' ⟨rfl, rfl⟩
    have hm := HM.out
    have hsub : u - x < a := by omega
    have hge : x ≤ u := hlo
    go_wp2
    all_goals (go_ret; exact ⟨rfl, rfl⟩)
theorem law_ExtentUpIsLeast (n k : Int) (w : World) (_ : -9223372036854775808 ≤ n ∧ n ≤ 9223372036854775807) (hk : 0 ≤ k ∧ k ≤ 255) :
    Calls Try.prog 4 #[.int .i64 n, .int .u8 k] w fun e w' => e = .returned (.bool true) ∧ Below w.heap.size w w' :=
  (walk_ExtentUpIsLeast n k w hk.1 hk.2).mono fun _ _ ⟨h, h'⟩ => ⟨h, h' ▸ Below.refl _ _⟩
end Go.Proofs.Ytgbmhimllafljaa
