/- The contract of draw's Mod, for the seats without chapter 3. -/
import Derived.Test.YtgbmhimllafljaaDoorCodes
namespace Go.Proofs.YtgbmhimllafljaaDoor
open Go.RowKit
theorem tmod_mod2 (x n : Int) : (x.tmod n + n) % n = x % n := by
  rw [Int.add_emod_right, Int.emod_eq_emod_iff_emod_sub_eq_zero]
  have := Int.mul_tdiv_add_tmod x n
  have e : x.tmod n - x = n * (- (x.tdiv n)) := by rw [Int.mul_neg]; omega
  rw [e]; simp

set_option maxHeartbeats 400000 in
theorem Mod_any2 (x n : Int) (w : World) (h1 : 1 ≤ n) (h2 : n ≤ 4611686018427387904) :
    Calls Tryd.prog 16 #[.int .i64 x, .int .i64 n] w fun e w' => e = .returned (.int .i64 (x % n)) ∧ w = w' := by
  have ht := tmod_mod2 x n
  have hl := Int.tmod_lt_of_pos x (show 0 < n by omega)
  have hg : -n < x.tmod n := by
    have := Int.tmod_lt_of_pos (-x) (show 0 < n by omega)
    rw [Int.neg_tmod] at this; omega
  have HT := hide ht
  clear ht
  go_enter Tryd.func16, Tryd.ntmps16
  go_wp2
  go_ret
  exact ⟨by rw [← HT.out]; rfl, rfl⟩

end Go.Proofs.YtgbmhimllafljaaDoor
