/- Contracts of package effect and its reference on single instructions. -/
import Derived.Test.YtgbmhimllafljaaSame
namespace Go.Proofs.Ytgbmhimllafljaa
open Go.RowKit
/-- what an instruction reads -/
def usesL (op b : Int) : List Int := if op = 15 ∨ op = 17 then [b] else []
def defsB (op : Int) : Bool := op == 16 || op == 17
/-- the slot that it writes -/
def defsN (op a : Int) : Int := if defsB op then a else 0
/-- an instruction as a value -/
def instrV (op a b c m : Int) : Value := .agg #[.int .i64 op, .int .i64 a, .int .i64 b, .int .i64 c, .int .u64 m]
theorem Holds.one {w : World} {S : Nat → Prop} {g : Nat} {x : Int} (hS : S g) (hc : w.cell? ⟨g, 0, none⟩ = some (.int .i64 x)) : Holds w S 1 (.slice (some ⟨g, 0, none⟩) 1 1) [x].length ([x].map (Value.int .i64)) := by
  refine ⟨_, _, rfl, Nat.le_refl _, by simp [maxLen], rfl, fun _ => ⟨g, 0, rfl, hS, fun j u hu => ?_⟩⟩
  match j, hu with
  | 0, hu => simp at hu; subst hu; exact hc
set_option maxHeartbeats 400000 in
theorem Uses_any (op a b c m : Int) (w : World) :
    Calls Try.prog 20 #[instrV op a b c m] w fun e w' => (∃ v, e = .returned v ∧ Holds w' (fun g => g < w'.heap.size) 1 v (usesL op b).length ((usesL op b).map (Value.int .i64))) ∧ Below w.heap.size w w' := by
  unfold instrV
  by_cases h1 : op = 15
  · have hu : usesL op b = [b] := if_pos (.inl h1)
    have hb : (op == 15) = true := by simpa using h1
    rw [hu]
    clear h1 hu
    go_enter Try.func20, Try.ntmps20
    go_wp2
    go_ret
    exact ⟨⟨_, rfl, Holds.one (by simp) (by go_simp)⟩, ((Below.refl _ _).alloc (Nat.le_refl _) _).alloc (by simp) _⟩
  · have hb : (op == 15) = false := by simpa using h1
    by_cases h2 : op = 17
    · have hu : usesL op b = [b] := if_pos (.inr h2)
      have hb2 : (op == 17) = true := by simpa using h2
      rw [hu]
      clear h1 h2 hu
      go_enter Try.func20, Try.ntmps20
      go_wp2
      go_ret
      exact ⟨⟨_, rfl, Holds.one (by simp) (by go_simp)⟩, ((Below.refl _ _).alloc (Nat.le_refl _) _).alloc (by simp) _⟩
    · have hu : usesL op b = [] := if_neg (by omega)
      have hb2 : (op == 17) = false := by simpa using h2
      rw [hu]
      clear h1 h2 hu
      go_enter Try.func20, Try.ntmps20
      go_wp2
      go_ret
      exact ⟨⟨_, rfl, Holds.nil_ _ _ _⟩, ((Below.refl _ _).alloc (Nat.le_refl _) _)⟩
set_option maxHeartbeats 400000 in
theorem rUses_any (op a b c m : Int) (w : World) :
    Calls Try.prog 21 #[instrV op a b c m] w fun e w' => (∃ v, e = .returned v ∧ Holds w' (fun g => g < w'.heap.size) 1 v (usesL op b).length ((usesL op b).map (Value.int .i64))) ∧ Below w.heap.size w w' := by
  unfold instrV
  by_cases h1 : op = 15
  · have hu : usesL op b = [b] := if_pos (.inl h1)
    have hb : (op == 15) = true := by simpa using h1
    rw [hu]
    clear h1 hu
    go_enter Try.func21, Try.ntmps21
    go_wp2
    go_ret
    exact ⟨⟨_, rfl, Holds.one (by simp) (by go_simp)⟩, ((Below.refl _ _).alloc (Nat.le_refl _) _).alloc (by simp) _⟩
  · have hb : (op == 15) = false := by simpa using h1
    by_cases h2 : op = 17
    · have hu : usesL op b = [b] := if_pos (.inr h2)
      have hb2 : (op == 17) = true := by simpa using h2
      rw [hu]
      clear h1 h2 hu
      go_enter Try.func21, Try.ntmps21
      go_wp2
      go_ret
      exact ⟨⟨_, rfl, Holds.one (by simp) (by go_simp)⟩, ((Below.refl _ _).alloc (Nat.le_refl _) _).alloc (by simp) _⟩
    · have hu : usesL op b = [] := if_neg (by omega)
      have hb2 : (op == 17) = false := by simpa using h2
      rw [hu]
      clear h1 h2 hu
      go_enter Try.func21, Try.ntmps21
      go_wp2
      go_ret
      exact ⟨⟨_, rfl, Holds.nil_ _ _ _⟩, ((Below.refl _ _).alloc (Nat.le_refl _) _)⟩
set_option maxHeartbeats 400000 in
theorem Defines_any (op a b c m : Int) (w : World) :
    Calls Try.prog 17 #[instrV op a b c m] w fun e w' => e = .returned (.tuple #[.int .i64 (defsN op a), .bool (defsB op)]) ∧ Below w.heap.size w w' := by
  unfold instrV defsN defsB
  cases h1 : (op == 16)
  · cases h2 : (op == 17)
    all_goals
      go_enter Try.func17, Try.ntmps17
      go_wp2
      go_ret2
      exact ⟨rfl, ((Below.refl _ _).alloc (Nat.le_refl _) _)⟩
  · go_enter Try.func17, Try.ntmps17
    go_wp2
    go_ret2
    exact ⟨rfl, ((Below.refl _ _).alloc (Nat.le_refl _) _)⟩
set_option maxHeartbeats 400000 in
theorem rRemovable_any (op a b c m : Int) (w : World) :
    Calls Try.prog 23 #[instrV op a b c m] w fun e w' => e = .returned (.bool (defsB op)) ∧ Below w.heap.size w w' := by
  unfold instrV defsB
  cases h1 : (op == 16)
  · cases h2 : (op == 17)
    all_goals
      go_enter Try.func23, Try.ntmps23
      go_wp2
      go_ret
      exact ⟨rfl, ((Below.refl _ _).alloc (Nat.le_refl _) _)⟩
  · go_enter Try.func23, Try.ntmps23
    go_wp2
    go_ret
    exact ⟨rfl, ((Below.refl _ _).alloc (Nat.le_refl _) _)⟩
set_option maxHeartbeats 400000 in
theorem Removable_any (op a b c m : Int) (w : World) :
    Calls Try.prog 22 #[instrV op a b c m] w fun e w' => e = .returned (.bool (defsB op)) ∧ Below w.heap.size w w' := by
  have hD := fun W => Defines_any op a b c m W
  unfold instrV at hD ⊢
  have HD := hide hD
  clear hD
  go_enter Try.func22, Try.ntmps22
  go_wp2_with (go_at_call 17; refine (HD.out _).mono ?_; rintro e w1 ⟨rfl, hb1⟩)
  go_ret
  exact ⟨rfl, ((Below.refl _ _).alloc (Nat.le_refl _) _).trans (hb1.mono (by simp))⟩
set_option maxHeartbeats 400000 in
theorem rDefines_any (op a b c m : Int) (w : World) :
    Calls Try.prog 18 #[instrV op a b c m] w fun e w' => e = .returned (.tuple #[.int .i64 (defsN op a), .bool (defsB op)]) ∧ Below w.heap.size w w' := by
  have hD := fun W => rRemovable_any op a b c m W
  unfold instrV at hD ⊢
  have HD := hide hD
  clear hD
  unfold defsN
  cases h1 : defsB op
  · go_enter Try.func18, Try.ntmps18
    go_wp2_with (go_at_call 23; refine (HD.out _).mono ?_; rintro e w1 ⟨rfl, hb1⟩)
    go_ret2
    exact ⟨rfl, ((Below.refl _ _).alloc (Nat.le_refl _) _).trans (hb1.mono (by simp))⟩
  · go_enter Try.func18, Try.ntmps18
    go_wp2_with (go_at_call 23; refine (HD.out _).mono ?_; rintro e w1 ⟨rfl, hb1⟩; have hc := hb1.cell (p := ⟨w.heap.size, 1, none⟩) (by simp))
    go_ret2
    exact ⟨rfl, ((Below.refl _ _).alloc (Nat.le_refl _) _).trans (hb1.mono (by simp))⟩
set_option maxHeartbeats 400000 in
theorem awake15 (w : World) : Calls Try.prog 16 #[] w fun e w' => e = .returned (.bool true) ∧ Below w.heap.size w w' := by
  have hD := fun W => Defines_any 16 3 0 0 0 W
  unfold instrV at hD
  have HD := hide hD
  clear hD
  go_enter Try.func16, Try.ntmps16
  go_wp2_with (go_at_call 17; refine (HD.out _).mono ?_; rintro e w1 ⟨rfl, hb1⟩)
  go_ret
  exact ⟨rfl, hb1⟩
end Go.Proofs.Ytgbmhimllafljaa
