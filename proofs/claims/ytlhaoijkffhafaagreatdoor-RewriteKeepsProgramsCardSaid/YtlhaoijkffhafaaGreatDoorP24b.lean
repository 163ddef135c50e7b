/- Frames: what Baseline and its reference compute. -/
import Derived.Test.YtlhaoijkffhafaaGreatDoorP24
import Derived.Test.YtlhaoijkffhafaaGreatDoorP3
set_option linter.unusedVariables false
set_option linter.unusedSimpArgs false
namespace Go.Proofs.YtlhaoijkffhafaaGreatDoor.Q
section
variable {p : AProgram} {i al args : Int}
theorem rargs24_sp (p : AProgram) (i : Int) (hp : WfP p) (hi : inN i p.Funcs.length) : WP (r24_Args p i) (· = 16 * argsN p (atD p.Funcs i).Code) := by
  unfold r24_Args
  obtain ⟨hi1, hi2⟩ := hi
  have hc := (hp.func i hi1 hi2).code
  (repeat' (first | (refine WP.chk (by (first | omega | (simp only [okI, List.length_append, List.length_cons, List.length_nil, length_setD, length_repD] at *; omega))) fun _ => ?_) | ((refine WP.bif (fun wh => ?_) (fun wh => ?_)) <;> (try simp only [decide_eq_true_eq, decide_eq_false_iff_not, Bool.not_eq_true', Bool.not_eq_false', Bool.and_eq_true, Bool.or_eq_true, Bool.not_eq_true, Bool.not_eq_false, Int.not_lt, Int.not_le, ne_eq] at wh) <;> (try (exfalso; omega)))))
  generalize hf : atD p.Funcs i = f at *
  have hT : ∀ k : Int, 0 ≤ argsN p (f.Code.take k.toNat) ∧ argsN p (f.Code.take k.toNat) ≤ 8 := fun k => by
    have := argsN_R hp ⟨hi1, hi2⟩ (l := f.Code.take k.toNat) fun x hx => by rw [hf]; exact List.take_subset _ _ hx
    omega
  refine WP.loop (fun j => 0 ≤ j.2 ∧ j.2 ≤ f.Code.length ∧ j.1 = argsN p (f.Code.take j.2.toNat)) (fun j => f.Code.length - j.2.toNat) ⟨by simp, by simp, rfl⟩ ?_
  rintro again ⟨n, k⟩ ⟨h1, h2, h3⟩ ih
  dsimp only at h1 h2 h3 ih ⊢
  have hTk := hT k
  rw [← h3] at hTk
  refine WP.bif (fun wh => ?_) (fun wh => ?_) <;> (try simp only [decide_eq_true_eq, decide_eq_false_iff_not, Bool.not_eq_true', Bool.not_eq_false', Bool.and_eq_true, Bool.or_eq_true, Bool.not_eq_true, Bool.not_eq_false, Int.not_lt, Int.not_le, ne_eq] at wh)
  · have hN := (hp.at_ (i := i) (k := k) ⟨hi1, hi2⟩ ⟨h1, by rw [hf]; exact wh⟩).need hp hi1
    rw [hf] at hN
    have hs : ∀ m, needA p (atD f.Code k) = m → max n m = argsN p (f.Code.take (k + 1).toNat) := fun m hm => by
      rw [take_atD ⟨h1, wh⟩, argsN_snoc, ← h3, hm]
    generalize hx : atD f.Code k = x at *
    (repeat' (first | (refine WP.chk (by (first | omega | (simp only [okI, List.length_append, List.length_cons, List.length_nil, length_setD, length_repD] at *; omega))) fun _ => ?_) | ((refine WP.bif (fun wh => ?_) (fun wh => ?_)) <;> (try simp only [decide_eq_true_eq, decide_eq_false_iff_not, Bool.not_eq_true', Bool.not_eq_false', Bool.and_eq_true, Bool.or_eq_true, Bool.not_eq_true, Bool.not_eq_false, Int.not_lt, Int.not_le, ne_eq] at wh) <;> (try (exfalso; omega)))))
    · exact ih _ ⟨by dsimp only; omega, by dsimp only; omega, hs _ (by unfold needA; rw [if_pos (by assumption)])⟩ (by dsimp only; omega)
    · exact ih _ ⟨by dsimp only; omega, by dsimp only; omega, hs _ (by unfold needA; rw [if_neg (by assumption), if_pos (by assumption)])⟩ (by dsimp only; omega)
    · refine ih _ ⟨by dsimp only; omega, by dsimp only; omega, ?_⟩ (by dsimp only; omega)
      have := hs 0 (by unfold needA; rw [if_neg (by assumption), if_neg (by assumption)])
      dsimp only
      omega
  · (repeat' (first | (refine WP.chk (by (first | omega | (simp only [okI, List.length_append, List.length_cons, List.length_nil, length_setD, length_repD] at *; omega))) fun _ => ?_) | ((refine WP.bif (fun wh => ?_) (fun wh => ?_)) <;> (try simp only [decide_eq_true_eq, decide_eq_false_iff_not, Bool.not_eq_true', Bool.not_eq_false', Bool.and_eq_true, Bool.or_eq_true, Bool.not_eq_true, Bool.not_eq_false, Int.not_lt, Int.not_le, ne_eq] at wh) <;> (try (exfalso; omega)))))
    refine WP.ret ?_
    rw [h3, take_all (by omega), Int.mul_comm]
end
theorem alP_pow {p : AProgram} (hp : WfP p) {al : Int} (h : al = alignP p ∨ al = alignP p * 2 ∨ al = alignP p * 4) : powB al = true ∧ al ≤ 256 ∧ 1 ≤ al := by
  have h1 := (alignP_R hp).1
  unfold alR at h1
  have h2 : al = 16 ∨ al = 32 ∨ al = 64 ∨ al = 128 ∨ al = 256 := by omega
  refine ⟨?_, by omega, by omega⟩
  rcases h2 with h | h | h | h | h <;> subst h <;> decide
end Go.Proofs.YtlhaoijkffhafaaGreatDoor.Q
