/- Contracts on intervals: package extent and its reference. -/
import Derived.Test.YtgbmhimllafljaaExtentRef
import Derived.Test.YtgbmhimllafljaaExtentLaw
namespace Go.Proofs.Ytgbmhimllafljaa
open Go.RowKit
def rightB (o s : Int) : Bool := boundB o && boundB s && decide (o + s ≤ 2147483647)
theorem rightB_iff (o s : Int) : rightB o s = true ↔ 0 ≤ o ∧ 0 ≤ s ∧ o + s ≤ 2147483647 := by
  simp only [rightB, Bool.and_eq_true, boundB_iff, decide_eq_true_eq]; omega
def meetB (a b c d : Int) : Bool := decide (max a c < min (a + b) (c + d))
def overlapB (a b c d : Int) : Bool := rightB a b && rightB c d && meetB a b c d
def insideB (a b n : Int) : Bool := rightB a b && decide (a + b ≤ n)
theorem overlapB_comm (a b c d : Int) : overlapB a b c d = overlapB c d a b := by
  unfold overlapB meetB
  rw [Bool.and_comm (rightB a b), Int.max_comm, Int.min_comm]

set_option maxHeartbeats 400000 in
theorem right_any (o s : Int) (w : World) :
    Calls Try.prog 49 #[.agg #[.int .i64 o, .int .i64 s]] w fun e w' => e = .returned (.bool (rightB o s)) ∧ Below w.heap.size w w' := by
  unfold rightB
  cases hb : boundB o
  · go_enter Try.func49, Try.ntmps49
    go_wp2_with (first | (go_at_call 45; refine (bound_any _ _).mono ?_; rintro e w' ⟨rfl, rfl⟩))
    go_ret
    exact ⟨rfl, (Below.refl _ _).alloc (Nat.le_refl _) _⟩
  · cases hs : boundB s
    · go_enter Try.func49, Try.ntmps49
      go_wp2_with (first | (go_at_call 45; refine (bound_any _ _).mono ?_; rintro e w' ⟨rfl, rfl⟩))
      go_ret
      exact ⟨rfl, (Below.refl _ _).alloc (Nat.le_refl _) _⟩
    · have h1 := (boundB_iff _).1 hb
      have h2 := (boundB_iff _).1 hs
      go_enter Try.func49, Try.ntmps49
      go_wp2_with (first | (go_at_call 45; refine (bound_any _ _).mono ?_; rintro e w' ⟨rfl, rfl⟩))
      go_ret
      exact ⟨by simp, (Below.refl _ _).alloc (Nat.le_refl _) _⟩
set_option maxHeartbeats 400000 in
theorem rRight_any (o s : Int) (w : World) :
    Calls Try.prog 51 #[.agg #[.int .i64 o, .int .i64 s]] w fun e w' => e = .returned (.bool (rightB o s)) ∧ Below w.heap.size w w' := by
  unfold rightB
  cases hb : boundB o
  · go_enter Try.func51, Try.ntmps51
    go_wp2_with (first | (go_at_call 48; refine (rBound_any _ _).mono ?_; rintro e w' ⟨rfl, rfl⟩))
    go_ret
    exact ⟨rfl, (Below.refl _ _).alloc (Nat.le_refl _) _⟩
  · cases hs : boundB s
    · go_enter Try.func51, Try.ntmps51
      go_wp2_with (first | (go_at_call 48; refine (rBound_any _ _).mono ?_; rintro e w' ⟨rfl, rfl⟩))
      go_ret
      exact ⟨rfl, (Below.refl _ _).alloc (Nat.le_refl _) _⟩
    · have h1 := (boundB_iff _).1 hb
      have h2 := (boundB_iff _).1 hs
      go_enter Try.func51, Try.ntmps51
      go_wp2_with (first | (go_at_call 48; refine (rBound_any _ _).mono ?_; rintro e w' ⟨rfl, rfl⟩))
      go_ret
      exact ⟨by simp, (Below.refl _ _).alloc (Nat.le_refl _) _⟩
theorem decide_congr {p q : Prop} [Decidable p] [Decidable q] (h : p ↔ q) : decide p = decide q := by
  by_cases hp : p
  · rw [decide_eq_true hp, decide_eq_true (h.1 hp)]
  · rw [decide_eq_false hp, decide_eq_false (fun hq => hp (h.2 hq))]
set_option maxHeartbeats 400000 in
theorem meet_any (a b c d : Int) (w : World) (ha : 0 ≤ a ∧ a ≤ 4611686018427387904) (hb : 0 ≤ b ∧ b ≤ 2147483647) (hc : 0 ≤ c ∧ c ≤ 4611686018427387904) (hd : 0 ≤ d ∧ d ≤ 2147483647) :
    Calls Try.prog 50 #[.agg #[.int .i64 a, .int .i64 b], .agg #[.int .i64 c, .int .i64 d]] w fun e w' => e = .returned (.bool (meetB a b c d)) ∧ Below w.heap.size w w' := by
  go_enter Try.func50, Try.ntmps50
  go_wp2
  all_goals
    go_ret
    exact ⟨ret_bool (decide_congr (by omega)), ((Below.refl _ _).alloc (Nat.le_refl _) _).alloc (by simp) _⟩
/-- old cells read as before -/
theorem bcell {W w1 : World} (hb : Below W.heap.size W w1) : (∀ b o, b < W.heap.size → w1.cell? ⟨b, o, none⟩ = W.cell? ⟨b, o, none⟩) ∧ (∀ b o, b < W.heap.size → w1.frozen? ⟨b, o, none⟩ = W.frozen? ⟨b, o, none⟩) :=
  ⟨fun b o h => hb.cell (p := ⟨b, o, none⟩) h, fun b o h => hb.frozen (p := ⟨b, o, none⟩) h⟩
set_option maxHeartbeats 400000 in
theorem Overlap_any (a b c d : Int) (w : World) :
    Calls Try.prog 29 #[.agg #[.int .i64 a, .int .i64 b], .agg #[.int .i64 c, .int .i64 d]] w fun e w' => e = .returned (.bool (overlapB a b c d)) ∧ Below w.heap.size w w' := by
  have hB0 := ((Below.refl w.heap.size w).alloc (Nat.le_refl _) (.cells #[.int .i64 a, .int .i64 b] 54)).alloc (by simp) (.cells #[.int .i64 c, .int .i64 d] 54)
  unfold overlapB
  cases h1 : rightB a b
  · have HB0 := hide hB0
    clear hB0
    go_enter Try.func29, Try.ntmps29
    go_wp2_with (first | (go_at_call 49; refine (right_any _ _ _).mono ?_; rintro e w1 ⟨rfl, hb1⟩))
    go_ret
    exact ⟨rfl, HB0.out.trans (hb1.mono (by simp; omega))⟩
  · have HB0 := hide hB0
    clear hB0
    cases h2 : rightB c d
    · go_enter Try.func29, Try.ntmps29
      go_wp2_with fail
      refine (right_any _ _ _).mono ?_
      rintro e w1 ⟨rfl, hb1⟩
      have HB1 := hide (HB0.out.trans (hb1.mono (by simp; omega)))
      obtain ⟨hc1, hf1⟩ := bcell hb1
      clear hb1 HB0
      go_wp2_with fail
      refine (right_any _ _ _).mono ?_
      rintro e w2 ⟨rfl, hb2⟩
      have HB2 := hide (HB1.out.trans (hb2.mono HB1.out.size))
      clear hc1 hf1 hb2
      go_wp2
      go_ret
      exact ⟨rfl, HB2.out⟩
    · have r1 := (rightB_iff _ _).1 h1
      have r2 := (rightB_iff _ _).1 h2
      go_enter Try.func29, Try.ntmps29
      go_wp2_with fail
      refine (right_any _ _ _).mono ?_
      rintro e w1 ⟨rfl, hb1⟩
      have HB1 := hide (HB0.out.trans (hb1.mono (by simp; omega)))
      have hz1 : w.heap.size + 1 < w1.heap.size := by have := hb1.size; simp at this; omega
      have hy1 : w.heap.size < w1.heap.size := by omega
      obtain ⟨hc1, hf1⟩ := bcell hb1
      clear hb1 HB0
      go_wp2_with fail
      refine (right_any _ _ _).mono ?_
      rintro e w2 ⟨rfl, hb2⟩
      have HB2 := hide (HB1.out.trans (hb2.mono HB1.out.size))
      have hz2 : w.heap.size + 1 < w2.heap.size := by have := hb2.size; omega
      have hy2 : w.heap.size < w2.heap.size := by omega
      obtain ⟨hc2, hf2⟩ := bcell hb2
      clear hb2 HB1
      go_wp2_with fail
      refine (meet_any a b c d _ ⟨by omega, by omega⟩ ⟨by omega, by omega⟩ ⟨by omega, by omega⟩ ⟨by omega, by omega⟩).mono ?_
      rintro e w3 ⟨rfl, hb3⟩
      have HB3 := hide (HB2.out.trans (hb3.mono HB2.out.size))
      clear hb3 HB2 hc1 hf1 hc2 hf2
      go_wp2
      go_ret
      exact ⟨rfl, HB3.out⟩
set_option maxHeartbeats 400000 in
theorem rOverlap_any (a b c d : Int) (w : World) :
    Calls Try.prog 30 #[.agg #[.int .i64 a, .int .i64 b], .agg #[.int .i64 c, .int .i64 d]] w fun e w' => e = .returned (.bool (overlapB a b c d)) ∧ Below w.heap.size w w' := by
  have hB0 := ((Below.refl w.heap.size w).alloc (Nat.le_refl _) (.cells #[.int .i64 a, .int .i64 b] 54)).alloc (by simp) (.cells #[.int .i64 c, .int .i64 d] 54)
  unfold overlapB
  cases h1 : rightB a b
  · have HB0 := hide hB0
    clear hB0
    go_enter Try.func30, Try.ntmps30
    go_wp2_with (first | (go_at_call 51; refine (rRight_any _ _ _).mono ?_; rintro e w1 ⟨rfl, hb1⟩))
    go_ret
    exact ⟨rfl, HB0.out.trans (hb1.mono (by simp; omega))⟩
  · have HB0 := hide hB0
    clear hB0
    cases h2 : rightB c d
    · go_enter Try.func30, Try.ntmps30
      go_wp2_with fail
      refine (rRight_any _ _ _).mono ?_
      rintro e w1 ⟨rfl, hb1⟩
      have HB1 := hide (HB0.out.trans (hb1.mono (by simp; omega)))
      obtain ⟨hc1, hf1⟩ := bcell hb1
      clear hb1 HB0
      go_wp2_with fail
      refine (rRight_any _ _ _).mono ?_
      rintro e w2 ⟨rfl, hb2⟩
      have HB2 := hide (HB1.out.trans (hb2.mono HB1.out.size))
      clear hc1 hf1 hb2
      go_wp2
      go_ret
      exact ⟨rfl, HB2.out⟩
    · have r1 := (rightB_iff _ _).1 h1
      have r2 := (rightB_iff _ _).1 h2
      go_enter Try.func30, Try.ntmps30
      go_wp2_with fail
      refine (rRight_any _ _ _).mono ?_
      rintro e w1 ⟨rfl, hb1⟩
      have HB1 := hide (HB0.out.trans (hb1.mono (by simp; omega)))
      have hz1 : w.heap.size + 1 < w1.heap.size := by have := hb1.size; simp at this; omega
      have hy1 : w.heap.size < w1.heap.size := by omega
      obtain ⟨hc1, hf1⟩ := bcell hb1
      clear hb1 HB0
      go_wp2_with fail
      refine (rRight_any _ _ _).mono ?_
      rintro e w2 ⟨rfl, hb2⟩
      have HB2 := hide (HB1.out.trans (hb2.mono HB1.out.size))
      have hz2 : w.heap.size + 1 < w2.heap.size := by have := hb2.size; omega
      have hy2 : w.heap.size < w2.heap.size := by omega
      obtain ⟨hc2, hf2⟩ := bcell hb2
      clear hb2 HB1
      go_wp2
      all_goals
        go_ret
        exact ⟨ret_bool (by unfold meetB; first | exact decide_congr (by omega) | (symm; rw [decide_eq_false_iff_not]; omega)), HB2.out⟩
set_option maxHeartbeats 400000 in
theorem Inside_any (a b n : Int) (w : World) :
    Calls Try.prog 31 #[.agg #[.int .i64 a, .int .i64 b], .int .i64 n] w fun e w' => e = .returned (.bool (insideB a b n)) ∧ Below w.heap.size w w' := by
  have hB0 := (Below.refl w.heap.size w).alloc (Nat.le_refl _) (.cells #[.int .i64 a, .int .i64 b] 54)
  have HB0 := hide hB0
  clear hB0
  unfold insideB
  cases h1 : rightB a b
  · go_enter Try.func31, Try.ntmps31
    go_wp2_with (first | (go_at_call 49; refine (right_any _ _ _).mono ?_; rintro e w1 ⟨rfl, hb1⟩))
    go_ret
    exact ⟨rfl, HB0.out.trans (hb1.mono (by simp))⟩
  · have r1 := (rightB_iff _ _).1 h1
    go_enter Try.func31, Try.ntmps31
    go_wp2_with fail
    refine (right_any _ _ _).mono ?_
    rintro e w1 ⟨rfl, hb1⟩
    have HB1 := hide (HB0.out.trans (hb1.mono (by simp)))
    have hz1 : w.heap.size < w1.heap.size := by have := hb1.size; simp at this; omega
    obtain ⟨hc1, hf1⟩ := bcell hb1
    clear hb1 HB0
    go_wp2
    all_goals (go_ret; exact ⟨by simp, HB1.out⟩)
set_option maxHeartbeats 400000 in
theorem rInside_any (a b n : Int) (w : World) :
    Calls Try.prog 32 #[.agg #[.int .i64 a, .int .i64 b], .int .i64 n] w fun e w' => e = .returned (.bool (insideB a b n)) ∧ Below w.heap.size w w' := by
  have hB0 := (Below.refl w.heap.size w).alloc (Nat.le_refl _) (.cells #[.int .i64 a, .int .i64 b] 54)
  have HB0 := hide hB0
  clear hB0
  unfold insideB
  cases h1 : rightB a b
  · go_enter Try.func32, Try.ntmps32
    go_wp2_with (first | (go_at_call 51; refine (rRight_any _ _ _).mono ?_; rintro e w1 ⟨rfl, hb1⟩))
    go_ret
    exact ⟨rfl, HB0.out.trans (hb1.mono (by simp))⟩
  · have r1 := (rightB_iff _ _).1 h1
    go_enter Try.func32, Try.ntmps32
    go_wp2_with fail
    refine (rRight_any _ _ _).mono ?_
    rintro e w1 ⟨rfl, hb1⟩
    have HB1 := hide (HB0.out.trans (hb1.mono (by simp)))
    have hz1 : w.heap.size < w1.heap.size := by have := hb1.size; simp at this; omega
    obtain ⟨hc1, hf1⟩ := bcell hb1
    clear hb1 HB0
    go_wp2
    all_goals (go_ret; exact ⟨by simp, HB1.out⟩)

end Go.Proofs.Ytgbmhimllafljaa
