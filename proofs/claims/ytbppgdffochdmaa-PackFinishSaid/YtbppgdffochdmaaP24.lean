/- The area of arguments: the law. -/
import Derived.Test.YtbppgdffochdmaaP2
set_option linter.unusedVariables false
set_option linter.unusedSimpArgs false
namespace Go.Proofs.Ytbppgdffochdmaa.Q
theorem awake24_sp : WP law24_awake (· = true) := by
  unfold law24_awake
  refine WP.call (R := (· = 16)) ?_ ?_
  · unfold pack_Args
    refine WP.chk (by simp) fun _ => ?_
    refine WP.iter 3 ?_
    simp [M.iter, WP.bif_iff, WP.chk_iff, WP.ret_iff, atD, okI]
    omega
  · rintro _ rfl
    exact WP.ret rfl
theorem scene24_sp (cs : List Int) (h : isU8 cs) : WP (law24_scene cs) fun r => WfP r.1 ∧ r.1.Funcs.length ≤ 3 ∧ inN r.2.1 r.1.Funcs.length ∧ (r.2.2.1 = alignP r.1 ∨ r.2.2.1 = alignP r.1 * 2 ∨ r.2.2.1 = alignP r.1 * 4) ∧ okC r.2.2.2 := by
  unfold law24_scene
  refine WP.call (new_sp cs 250 h (by omega)) fun x1 h1 => ?_
  refine WP.call (program_sp x1 3 12 h1 (by omega) (by omega)) fun x2 ⟨h2, h3, h4⟩ => ?_
  have h5 := h3.len
  refine WP.call (next_sp _ _ h2 (by omega)) fun x3 ⟨h6, h7, h8, _⟩ => ?_
  have h9 := h8 (by omega)
  refine WP.call (align5_sp _ h3) ?_
  rintro _ rfl
  refine WP.call (next_sp _ 3 h6 (by omega)) fun x5 ⟨a1, a2, a3, _⟩ => ?_
  have ha := (alignP_R h3).1
  have e : x5.1 = 0 ∨ x5.1 = 1 ∨ x5.1 = 2 := by omega
  have e2 : alignP x2.1 * 2 ^ x5.1.toNat = alignP x2.1 ∨ alignP x2.1 * 2 ^ x5.1.toNat = alignP x2.1 * 2 ∨ alignP x2.1 * 2 ^ x5.1.toNat = alignP x2.1 * 4 := by
    rcases e with e | e | e <;> rw [e] <;> simp
  refine WP.chk ⟨a2, by omega, ?_⟩ fun _ => WP.ret ⟨h3, by dsimp only; omega, ⟨h7, h9⟩, e2, a1⟩
  unfold okI
  unfold alR at ha
  omega
end Go.Proofs.Ytbppgdffochdmaa.Q
