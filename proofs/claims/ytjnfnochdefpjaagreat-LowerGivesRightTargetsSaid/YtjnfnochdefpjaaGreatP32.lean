/- Drawn numbers, layouts and renamings: what is safe and in range. -/
import Derived.Test.YtjnfnochdefpjaaGreatP31b
import Derived.Test.YtjnfnochdefpjaaGreatP24c
set_option linter.unusedVariables false
set_option linter.unusedSimpArgs false
namespace Go.Proofs.YtjnfnochdefpjaaGreat.Q
theorem int_sp (c : DCodes) (hc : okC c) : WP (draw_Int c) fun r => okC r.2 ∧ okI r.1 := by
  unfold draw_Int
  refine WP.call (next_sp c 12 hc (by omega)) fun x1 ⟨h1, h2, h3, _⟩ => ?_
  have h3 := h3 (by omega)
  refine WP.bif (fun wh => ?_) (fun wh => ?_)
  · refine WP.call (next_sp _ _ h1 (by simp)) fun x2 ⟨a1, a2, a3, _⟩ => ?_
    have a3 := a3 (by simp)
    simp only [List.length_cons, List.length_nil] at a3
    refine WP.chk ⟨a2, by simp; omega⟩ fun _ => ?_
    refine WP.ret ⟨a1, ?_⟩
    dsimp only
    have : x2.1 = 0 ∨ x2.1 = 1 ∨ x2.1 = 2 ∨ x2.1 = 3 ∨ x2.1 = 4 ∨ x2.1 = 5 ∨ x2.1 = 6 ∨ x2.1 = 7 ∨ x2.1 = 8 ∨ x2.1 = 9 := by omega
    rcases this with h | h | h | h | h | h | h | h | h | h <;> rw [h] <;> simp [atD, okI]
  · refine WP.call (next_sp _ 256 h1 (by omega)) fun x3 ⟨a1, a2, a3, _⟩ => ?_
    have a3 := a3 (by omega)
    refine WP.call (next_sp _ 7 a1 (by omega)) fun x4 ⟨b1, b2, b3, _⟩ => ?_
    have b3 := b3 (by omega)
    have hp : (0 : Int) < 2 ^ x4.1.toNat := Int.pow_pos (by omega)
    have q1 : 0 ≤ x3.1 / 2 ^ x4.1.toNat := Int.ediv_nonneg a2 (by omega)
    have q2 : x3.1 / 2 ^ x4.1.toNat ≤ x3.1 := Int.ediv_le_self _ a2
    refine WP.chk ⟨by omega, by omega⟩ fun _ => ?_
    refine WP.chk ⟨by omega, by omega, by omega⟩ fun _ => ?_
    refine WP.chk ⟨by omega, by omega⟩ fun _ => ?_
    exact WP.ret ⟨b1, by dsimp only; omega, by dsimp only; omega⟩
section
variable {p : AProgram} {i : Int}
theorem layout_sp (hp : WfP p) (hi : inN i p.Funcs.length) {al : Int} (hal : powB al = true) (c : DCodes) (hc : okC c) : WP (draw_Layout c p i al) fun r => okC r.2 ∧ r.1.Off.length ≤ 10 := by
  have hsl := hp.slotsR (atD_mem hi)
  have hA := argsN_R hp hi (l := (atD p.Funcs i).Code) fun x hx => hx
  unfold draw_Layout
  refine WP.call (rbaseline_sp hi (rargs24_sp p i hp hi) (by omega) (by omega) (fun s hs => (hsl.2 s hs).okS) (by omega) hal) fun x1 hx1 => ?_
  have hl : x1.1.Off.length ≤ 6 := by
    rw [hx1]
    unfold baseR
    split
    · simp
    · dsimp only; rw [offL_len]; exact hsl.1
  clear hx1
  refine WP.join (fun j => okC j.1 ∧ j.2.Off.length ≤ 6) ?_ ?_
  · rintro ⟨c2, y⟩ ⟨a1, a2⟩
    dsimp only at a1 a2 ⊢
    refine WP.chk (by omega) fun _ => ?_
    refine WP.call (next_sp _ 4 a1 (by omega)) fun x2 ⟨b1, b2, b3, _⟩ => ?_
    have b3 := b3 (by omega)
    refine WP.loop (fun j => 0 ≤ j.1 ∧ okC j.2.1 ∧ (j.2.2.2.2.length : Int) + j.1 ≤ 9) (fun j => j.1.toNat) ⟨b2, b1, by dsimp only; omega⟩ ?_
    rintro again ⟨n, c3, A, Z, o⟩ ⟨d1, d2, d3⟩ ih
    dsimp only at d1 d2 d3 ih ⊢
    refine WP.bif (fun wh => ?_) (fun wh => ?_) <;> (try simp only [wpH, ne_eq] at wh)
    · refine WP.join (fun j => okC j.1 ∧ j.2.2.2.length ≤ o.length + 1) ?_ ?_
      · rintro ⟨c4, A2, Z2, o2⟩ ⟨e1, e2⟩
        dsimp only at e1 e2 ⊢
        refine WP.chk ⟨by omega, by omega⟩ fun _ => ?_
        exact ih _ ⟨by dsimp only; omega, e1, by dsimp only; omega⟩ (by dsimp only; omega)
      intro k2 hk2
      refine WP.call (next_sp _ _ d2 (by omega)) fun x3 ⟨f1, f2, f3, _⟩ => ?_
      refine WP.call (next_sp _ 8 f1 (by omega)) fun x4 ⟨g1, g2, g3, _⟩ => ?_
      have g3 := g3 (by omega)
      have same : ∀ (c : DCodes) (A Z : Int), okC c → WP (k2 (c, A, Z, o)) fun r => okC r.2 ∧ r.1.Off.length ≤ 10 := fun c A Z h => hk2 _ ⟨h, by dsimp only; omega⟩
      have sets : ∀ (c : DCodes) (A Z j v : Int), okC c → WP (k2 (c, A, Z, setD o j v)) fun r => okC r.2 ∧ r.1.Off.length ≤ 10 := fun c A Z j v h => hk2 _ ⟨h, by dsimp only; rw [length_setD]; omega⟩
      refine WP.join (fun _ => True) ?_ ?_
      · intro b _
        refine WP.bif (fun wh => ?_) (fun wh => ?_)
        · refine WP.bif (fun wh => ?_) (fun wh => same _ _ _ g1) <;> (try simp only [wpH, ne_eq] at wh)
          refine WP.call (next_sp _ 6 g1 (by omega)) fun x6 ⟨m1, m2, m3, _⟩ => ?_
          have m3 := m3 (by omega)
          refine WP.chk ⟨by omega, by omega⟩ fun _ => ?_
          refine WP.chk ⟨by omega, by omega⟩ fun _ => ?_
          exact sets _ _ _ _ _ m1
        · refine WP.join (fun _ => True) ?_ ?_
          · intro b _
            refine WP.bif (fun wh => ?_) (fun wh => ?_)
            · refine WP.bif (fun wh => ?_) (fun wh => same _ _ _ g1) <;> (try simp only [wpH, ne_eq] at wh)
              refine WP.call (next_sp _ _ g1 (by omega)) fun x8 ⟨m1, m2, m3, _⟩ => ?_
              have m3 := m3 (by omega)
              refine WP.chk ⟨by omega, by omega⟩ fun _ => ?_
              refine WP.chk ⟨by omega, by omega⟩ fun _ => ?_
              exact sets _ _ _ _ _ m1
            · refine WP.bif (fun wh => ?_) (fun wh => ?_)
              · refine WP.call (next_sp _ 4 g1 (by omega)) fun x9 ⟨m1, m2, m3, _⟩ => ?_
                have m3 := m3 (by omega)
                refine WP.chk ⟨by omega, by omega⟩ fun _ => ?_
                refine WP.chk ⟨by omega, by omega⟩ fun _ => ?_
                exact same _ _ _ m1
              refine WP.bif (fun wh => ?_) (fun wh => ?_)
              · refine WP.bif (fun wh => ?_) (fun wh => same _ _ _ g1) <;> (try simp only [wpH, ne_eq] at wh)
                refine WP.call (next_sp _ 3 g1 (by omega)) fun x10 ⟨m1, m2, m3, _⟩ => ?_
                refine WP.bif (fun _ => ?_) (fun _ => same _ _ _ m1)
                refine WP.call (int_sp _ m1) fun x11 ⟨n1, _⟩ => ?_
                refine WP.chk ⟨by omega, by omega⟩ fun _ => ?_
                exact sets _ _ _ _ _ n1
              refine WP.bif (fun wh => ?_) (fun wh => same _ _ _ g1)
              refine WP.call (next_sp _ 8 g1 (by omega)) fun x12 ⟨m1, m2, m3, _⟩ => ?_
              refine WP.bif (fun _ => ?_) (fun _ => ?_)
              · exact WP.call (int_sp _ m1) fun x13 ⟨n1, _⟩ => same _ _ _ n1
              refine WP.bif (fun _ => ?_) (fun _ => ?_)
              · exact WP.call (int_sp _ m1) fun x13 ⟨n1, _⟩ => same _ _ _ n1
              refine WP.bif (fun _ => ?_) (fun _ => same _ _ _ m1)
              refine WP.call (next_sp _ 40 m1 (by omega)) fun x15 ⟨n1, _⟩ => ?_
              refine WP.chk (by simp only [List.length_singleton]; omega) fun _ => ?_
              exact hk2 _ ⟨n1, by simp⟩
          · intro k4 hk4
            exact WP.bif (fun _ => hk4 _ trivial) (fun _ => hk4 _ trivial)
      · intro k3 hk3
        refine WP.bif (fun _ => hk3 _ trivial) (fun _ => ?_)
        exact WP.bif (fun _ => hk3 _ trivial) (fun _ => hk3 _ trivial)
    · exact WP.ret ⟨d2, by dsimp only; omega⟩
  · intro k1 hk1
    refine WP.call (next_sp _ 3 hc (by omega)) fun x16 ⟨b1, _⟩ => ?_
    refine WP.bif (fun _ => ?_) (fun _ => hk1 _ ⟨b1, hl⟩)
    refine WP.call (propose31_sp hp hi) fun x17 h17 => ?_
    exact WP.bif (fun _ => hk1 _ ⟨b1, h17.lay.2.2.1⟩) (fun _ => hk1 _ ⟨b1, hl⟩)
end
end Go.Proofs.YtjnfnochdefpjaaGreat.Q
