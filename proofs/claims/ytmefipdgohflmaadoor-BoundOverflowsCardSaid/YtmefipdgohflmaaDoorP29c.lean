/- Chapter 29: the bound of a chain, at the limit and beyond it. -/
import Derived.Test.YtmefipdgohflmaaDoorP29b
set_option linter.unusedVariables false
set_option linter.unusedSimpArgs false
namespace Go.Proofs.YtmefipdgohflmaaDoor.Q
theorem weightsA_sp (t : ATarget) (hl : t.Frames.length ≤ 1000000) : WP (bound_Weights t) (· = t.Frames.map (·.Size)) := by
  unfold bound_Weights
  refine WP.loop (fun z => 0 ≤ z.1 ∧ z.1 ≤ t.Frames.length ∧ z.2 = (t.Frames.take z.1.toNat).map (·.Size)) (fun z => t.Frames.length - z.1.toNat) ⟨Int.le_refl _, by dsimp only; omega, rfl⟩ ?_
  rintro again ⟨x, w⟩ ⟨h1, h2, h3⟩ ih
  dsimp only at h1 h2 h3 ih ⊢
  have hwl : w.length ≤ t.Frames.length := by rw [h3, List.length_map, List.length_take]; omega
  refine WP.bif (fun wh => ?_) (fun wh => ?_) <;> (try simp only [wpH, ne_eq] at wh)
  · have hx : inN x t.Frames.length := ⟨h1, wh⟩
    refine WP.chk hx fun _ => WP.chk (by simp only [List.length_cons, List.length_nil]; omega) fun _ => WP.chk ⟨by omega, by omega⟩ fun _ => ?_
    refine ih _ ⟨by dsimp only; omega, by dsimp only; omega, ?_⟩ (by dsimp only; omega)
    dsimp only
    rw [take_atD hx, List.map_append, ← h3]; rfl
  · rw [take_all (by omega)] at h3
    exact WP.ret h3
theorem weightsR_sp (t : ATarget) (hl : t.Frames.length ≤ 1000000) : WP (r29_Weights t) (· = t.Frames.map (·.Size)) := by
  unfold r29_Weights
  refine WP.loop (fun z => 0 ≤ z.1 ∧ z.1 ≤ t.Frames.length ∧ z.2 = (t.Frames.take z.1.toNat).map (·.Size)) (fun z => t.Frames.length - z.1.toNat) ⟨Int.le_refl _, by dsimp only; omega, rfl⟩ ?_
  rintro again ⟨x, w⟩ ⟨h1, h2, h3⟩ ih
  dsimp only at h1 h2 h3 ih ⊢
  have hwl : w.length ≤ t.Frames.length := by rw [h3, List.length_map, List.length_take]; omega
  refine WP.bif (fun wh => ?_) (fun wh => ?_) <;> (try simp only [wpH, ne_eq] at wh)
  · have hx : inN x t.Frames.length := ⟨h1, wh⟩
    refine WP.chk hx fun _ => WP.chk (by simp only [List.length_cons, List.length_nil]; omega) fun _ => WP.chk ⟨by omega, by omega⟩ fun _ => ?_
    refine ih _ ⟨by dsimp only; omega, by dsimp only; omega, ?_⟩ (by dsimp only; omega)
    dsimp only
    rw [take_atD hx, List.map_append, ← h3]; rfl
  · rw [take_all (by omega)] at h3
    exact WP.ret h3
/-- The bounds of a chain. -/
def chainB (n : Nat) (q l : Int) : List Int := (List.range n).map fun k : Nat => q * ((n : Int) - 1 - k) + l
theorem chainB_at {n : Nat} {q l a : Int} (ha : inN a n) : atD (chainB n q l) a = q * ((n : Int) - 1 - a) + l := by
  obtain ⟨k, rfl⟩ := Int.eq_ofNat_of_zero_le ha.1
  have hk : k < n := by have := ha.2; omega
  rw [atD_nat (by unfold chainB; simpa using hk)]
  simp [chainB]
end Go.Proofs.YtmefipdgohflmaaDoor.Q
