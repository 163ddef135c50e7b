/- The walk of ExtentArithmetic. -/
import Derived.Test.YtgbmhimllafljaaExtentRefUp
import Derived.Test.YtgbmhimllafljaaExtentLaw
namespace Go.Proofs.Ytgbmhimllafljaa
open Go.RowKit
/-- the first n cells of block b are ints -/
def IntCells (w : World) (b n : Nat) : Prop := ∀ j, j < n → ∃ z, w.cell? ⟨b, j, none⟩ = some (.int .i64 z)
theorem IntCells.new3 (w : World) (x y z : Int) (t : TypeId) : IntCells (w.alloc (.cells #[.int .i64 x, .int .i64 y, .int .i64 z] t)) w.heap.size 3 := by
  intro j hj
  match j, hj with
  | 0, _ => exact ⟨x, by simp⟩
  | 1, _ => exact ⟨y, by simp⟩
  | 2, _ => exact ⟨z, by simp⟩
theorem IntCells.below {w w' : World} {b n B : Nat} (h : IntCells w b n) (hb : Below B w w') (hlt : b < B) : IntCells w' b n := fun j hj => by
  obtain ⟨z, hz⟩ := h j hj
  exact ⟨z, (hb.cell (p := ⟨b, j, none⟩) hlt).trans hz⟩
set_option maxRecDepth 100000 in
set_option maxHeartbeats 800000 in
theorem law_ExtentArithmetic (n a k : Int) (w : World) (_ : -9223372036854775808 ≤ n ∧ n ≤ 9223372036854775807) (_ : -9223372036854775808 ≤ a ∧ a ≤ 9223372036854775807) (hk : 0 ≤ k ∧ k ≤ 255) :
    Calls Try.prog 6 #[.int .i64 n, .int .i64 a, .int .u8 k] w fun e w' => e = .returned (.bool true) ∧ Below w.heap.size w w' := by
  obtain ⟨j, hj, ha⟩ := shl_pow k 26 (by omega) (by omega)
  have hp : 1 ≤ wrap64 (2 ^ (k % 26).toNat) ∧ wrap64 (2 ^ (k % 26).toNat) ≤ 33554432 := by
    rw [ha]
    have h1 : 1 ≤ 2 ^ j := Nat.one_le_two_pow
    have h2 : (2 : Nat) ^ j ≤ 2 ^ 25 := pow_le_pow_iff2.2 (by omega)
    omega
  clear ha hj
  go_enter Try.func6, Try.ntmps6
  go_wp2_with (first | (go_at_call 13; refine (awake03 _).mono ?_; rintro e w' ⟨rfl, rfl⟩) | (go_at_call 14; refine (Mod_any _ _ _ (by omega) (by omega)).mono ?_; rintro e w' ⟨rfl, rfl⟩) | (fail))
  generalize n % 2147483649 = m at *
  generalize wrap64 (2 ^ (k % 26).toNat) = q at *
  have hI := hide (IntCells.new3 w n m (2147483647 - k) 3)
  have hB := hide ((Below.refl w.heap.size w).alloc (Nat.le_refl _) (.cells #[.int .i64 n, .int .i64 m, .int .i64 (2147483647 - k)] 3))
  have hs : w.heap.size < (w.alloc (.cells #[.int .i64 n, .int .i64 m, .int .i64 (2147483647 - k)] 3)).heap.size := by simp
  have HS := hide hs
  clear hs
  go_loopw [33] (fun i wr => ∃ k' : Nat, k' ≤ 3 ∧ i = .int .i64 k' ∧ Hid (Below w.heap.size w wr) ∧ Hid (IntCells wr w.heap.size 3) ∧ Hid (w.heap.size < wr.heap.size)) (fun i _ => 3 - (intOf i).toNat)
  case atStart => exact ⟨0, by omega, rfl, hB, hI, HS⟩
  case round =>
    clear hI hB HS
    obtain ⟨k', hk', rfl, hB, hI, HS⟩ := hrel
    by_cases hlt : k' < 3
    · obtain ⟨x, hx⟩ := hI.out k' hlt
      have hd : (k' : Int) < 3 := by omega
      go_wp2_with fail
      obtain ⟨wo, hwo⟩ : ∃ wo : World, wo = wr := ⟨_, rfl⟩
      subst hwo
      have hI2 := hide (IntCells.new3 wo a q (q + 1) 3)
      have hB2 := hide ((Below.refl wo.heap.size wo).alloc (Nat.le_refl _) (.cells #[.int .i64 a, .int .i64 q, .int .i64 (q + 1)] 3))
      have HS2 := hide (show wo.heap.size < (wo.alloc (.cells #[.int .i64 a, .int .i64 q, .int .i64 (q + 1)] 3)).heap.size by simp)
      go_loopw [43] (fun i wr => ∃ k2 : Nat, k2 ≤ 3 ∧ i = .int .i64 k2 ∧ Hid (Below wo.heap.size wo wr) ∧ Hid (IntCells wr wo.heap.size 3) ∧ Hid (wo.heap.size < wr.heap.size)) (fun i _ => 3 - (intOf i).toNat)
      case atStart => exact ⟨0, by omega, rfl, hB2, hI2, HS2⟩
      case round =>
        clear hI2 hB2 HS2
        obtain ⟨k2, hk2, rfl, hB2, hI2, HS2⟩ := hrel
        by_cases hlt2 : k2 < 3
        · obtain ⟨y, hy⟩ := hI2.out k2 hlt2
          have hd2 : (k2 : Int) < 3 := by omega
          go_wp2_with (first | (go_at_call 15; refine (Up_any _ _ _).mono ?_; rintro e w' ⟨rfl, rfl⟩) | (go_at_call 24; refine (rUp_any _ _ _).mono ?_; rintro e w' ⟨rfl, rfl⟩) | (go_at_call 25; refine (Add_any _ _ _).mono ?_; rintro e w' ⟨rfl, rfl⟩) | (go_at_call 26; refine (rAdd_any _ _ _).mono ?_; rintro e w' ⟨rfl, rfl⟩) | (go_at_call 27; refine (power_any _ _).mono ?_; rintro e w' ⟨rfl, rfl⟩) | (go_at_call 28; refine (rPower_any _ _).mono ?_; rintro e w' ⟨rfl, rfl⟩))
          go_roundw
          case rel => exact ⟨k2 + 1, by omega, by go_num, hB2, hI2, HS2⟩
          case measure => simp only [intOf]; omega
        · go_wp2
          go_roundw
          case rel => exact ⟨k' + 1, by omega, by go_num, hide (hB.out.trans (hB2.out.mono (by have := HS.out; omega))), hide (hI.out.below hB2.out HS.out), hide (by have := HS.out; have := HS2.out; omega)⟩
          case measure => simp only [intOf]; omega
    · go_wp2
      go_ret
      exact ⟨rfl, hB.out⟩
end Go.Proofs.Ytgbmhimllafljaa
