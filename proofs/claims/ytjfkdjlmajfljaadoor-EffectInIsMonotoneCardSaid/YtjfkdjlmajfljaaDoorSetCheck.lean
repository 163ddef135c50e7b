/- The reference of sets: Check. -/
import Derived.Test.YtjfkdjlmajfljaaDoorSetHas
import Derived.BigQuiet
import Derived.Deep.QuietTactic
namespace Go.Proofs.YtjfkdjlmajfljaaDoor
open Go.ChangeShapes Go.WideShapes Go.ChangeAt Go.RowKit Go.Deep
def okAt (l : List Int) (k : Nat) : Bool := inB (l.getD k 0) && (k == 0 || decide (l.getD (k - 1) 0 < l.getD k 0))
def checkL (l : List Int) : Bool := (List.range l.length).all (okAt l)
theorem okAt_zero {l : List Int} (h : 0 < l.length) : okAt l 0 = inB l[0] := by simp [okAt, List.getD, h]
theorem okAt_succ {l : List Int} {j : Nat} (h : j + 1 < l.length) : okAt l (j + 1) = (inB l[j + 1] && decide (l[j] < l[j + 1])) := by
  have : j < l.length := by omega
  simp [okAt, List.getD, h, this]
theorem checkL_bad {l : List Int} {k : Nat} (h : k < l.length) (hb : okAt l k = false) : checkL l = false := by
  unfold checkL; rw [List.all_eq_false]; exact ⟨k, by simpa using h, by simp [hb]⟩
theorem checkL_ok {l : List Int} (h : ∀ k, k < l.length → okAt l k = true) : checkL l = true := by
  unfold checkL; rw [List.all_eq_true]; intro k hk; exact h k (by simpa using hk)
theorem good_is {n : Int} {b : Bool} (h : inB n = b) (w : World) : Calls Tryd.prog 63 #[.int .i64 n] w fun e w' => e = .returned (.bool b) ∧ w' = w := (good_any n w).mono fun e w' ⟨h1, h2⟩ => ⟨by rw [h1, h], h2.symm⟩
set_option maxHeartbeats 1000000 in
theorem rCheck_any (v : Value) (l : List Int) (S : Nat → Prop) (w : World) (hv : Holds w S 1 v l.length (l.map (Value.int .i64))) (hS : ∀ b, S b → b < w.heap.size) :
    Calls Tryd.prog 54 #[v] w fun e w' => e = .returned (.bool (checkL l)) ∧ Below w.heap.size w w' := by
  have HV := hide hv
  have HS := hide hS
  clear hS
  obtain ⟨A, c, rfl, hc1, hc2, _, _⟩ := hv
  unfold maxLen at hc2
  go_enter Tryd.func54, Tryd.ntmps54
  go_wp2
  go_loopw [3] (fun i wr => ∃ k : Nat, k ≤ l.length ∧ i = .int .i64 k ∧ Hid (Below w.heap.size w wr) ∧ Hid (∀ j, j < k → okAt l j = true)) (fun i _ => l.length - (intOf i).toNat)
  case atStart => exact ⟨0, by omega, rfl, hide (Below.refl _ _), hide (fun j h => by omega)⟩
  case round =>
    obtain ⟨k, hk, rfl, HB, HA⟩ := hrel
    by_cases hlt : k < l.length
    · have hd : (k : Int) < (l.length : Int) := by omega
      obtain ⟨b, o, rfl, hSb, hx⟩ := (HV.out.below HB.out HS.out).atInt hlt
      cases hin : inB l[k]
      · have HX := hide hin
        have HF : Hid (checkL l = false) := hide (checkL_bad hlt (by unfold okAt; simp [List.getD, hlt, hin]))
        rcases Nat.eq_zero_or_pos k with rfl | hpos
        · simp only [Nat.add_zero] at hx
          have hp : ¬ ((0 : Nat) : Int) > 0 := by omega
          go_wp2
          go_quiet (first | (go_at_call 63; refine Calls.quiet_of_same (good_is HX.out _)))
          go_wp2
          go_ret
          exact ⟨by rw [HF.out]; rfl, by first | exact HB.out | exact below_drewN2 HB.out _⟩
        · have hp : (k : Int) > 0 := by omega
          go_wp2
          go_quiet (first | (go_at_call 63; refine Calls.quiet_of_same (good_is HX.out _)))
          go_wp2
          go_ret
          exact ⟨by rw [HF.out]; rfl, by first | exact HB.out | exact below_drewN2 HB.out _⟩
      · have HX := hide hin
        have step : okAt l k = true → Hid (∀ j, j < k + 1 → okAt l j = true) := fun h => hide (fun j hj => by
          by_cases e : j = k
          · subst e; exact h
          · exact HA.out j (by omega))
        rcases Nat.eq_zero_or_pos k with rfl | hpos
        · simp only [Nat.add_zero] at hx
          have hp : ¬ ((0 : Nat) : Int) > 0 := by omega
          have HA2 := step (by rw [okAt_zero hlt]; exact hin)
          clear step
          go_wp2
          go_quiet (first | (go_at_call 63; refine Calls.quiet_of_same (good_is HX.out _)))
          go_wp2
          go_roundw
          case rel => exact ⟨_, by omega, by go_num, by first | exact HB | exact hide (below_drewN2 HB.out _), HA2⟩
          case measure => simp only [intOf]; omega
        · obtain ⟨j, rfl⟩ : ∃ j, k = j + 1 := ⟨k - 1, by omega⟩
          have hp : ((j + 1 : Nat) : Int) > 0 := by omega
          have hj : (0 : Int) ≤ (j : Int) := by omega
          have hjl : j < l.length := by omega
          have hd2 : (j : Int) < (l.length : Int) := by omega
          obtain ⟨b', o', he', _, hx0⟩ := (HV.out.below HB.out HS.out).atInt hjl
          injection he' with he'
          injection he' with e1 e2
          subst e1; subst e2
          by_cases hcmp : l[j + 1] ≤ l[j]
          · have HF : Hid (checkL l = false) := hide (checkL_bad hlt (by rw [okAt_succ hlt]; simp; omega))
            clear step
            go_wp2
            go_quiet (first | (go_at_call 63; refine Calls.quiet_of_same (good_is HX.out _)))
            go_wp2
            go_ret
            exact ⟨by rw [HF.out]; rfl, by first | exact HB.out | exact below_drewN2 HB.out _⟩
          · have HA2 := step (by rw [okAt_succ hlt]; simp [hin]; omega)
            clear step
            go_wp2
            go_quiet (first | (go_at_call 63; refine Calls.quiet_of_same (good_is HX.out _)))
            go_wp2
            go_roundw
            case rel => exact ⟨_, by omega, by go_num, by first | exact HB | exact hide (below_drewN2 HB.out _), HA2⟩
            case measure => simp only [intOf]; omega
    · have hd : ¬ (k : Int) < (l.length : Int) := by omega
      have HF : Hid (checkL l = true) := hide (checkL_ok (fun j hj => HA.out j (by omega)))
      go_wp2
      go_ret
      exact ⟨by rw [HF.out]; rfl, by first | exact HB.out | exact below_drewN2 HB.out _⟩
end Go.Proofs.YtjfkdjlmajfljaaDoor
