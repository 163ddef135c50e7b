/- Drawn numbers, layouts and renamings: what is safe and in range. -/
import Derived.Test.YtlhaoijkffhafaaGreatDoorP31b
import Derived.Test.YtlhaoijkffhafaaGreatDoorP24c
set_option linter.unusedVariables false
set_option linter.unusedSimpArgs false
namespace Go.Proofs.YtlhaoijkffhafaaGreatDoor.Q
theorem int_sp (c : DCodes) (hc : okC c) : WP (draw_Int c) fun r => okC r.2 ∧ okI r.1 := by
  unfold draw_Int
  refine WP.call (next_sp c 12 hc (by omega)) fun x1 ⟨h1, h2, h3, _⟩ => ?_
  have h3 := h3 (by omega)
  refine WP.bif (fun wh => ?_) (fun wh => ?_)
  · refine WP.call (next_sp _ _ h1 (by simp)) fun x2 ⟨a1, a2, a3, _⟩ => ?_
    have a3 := a3 (by simp)
    simp only [List.length_cons, List.length_nil] at a3
    refine WP.chk ⟨a2, by simp; omega⟩ fun _ => ?_
    refine WP.ret ⟨a1, ?_⟩
    dsimp only
    have : x2.1 = 0 ∨ x2.1 = 1 ∨ x2.1 = 2 ∨ x2.1 = 3 ∨ x2.1 = 4 ∨ x2.1 = 5 ∨ x2.1 = 6 ∨ x2.1 = 7 ∨ x2.1 = 8 ∨ x2.1 = 9 := by omega
    rcases this with h | h | h | h | h | h | h | h | h | h <;> rw [h] <;> simp [atD, okI]
  · refine WP.call (next_sp _ 256 h1 (by omega)) fun x3 ⟨a1, a2, a3, _⟩ => ?_
    have a3 := a3 (by omega)
    refine WP.call (next_sp _ 7 a1 (by omega)) fun x4 ⟨b1, b2, b3, _⟩ => ?_
    have b3 := b3 (by omega)
    have hp : (0 : Int) < 2 ^ x4.1.toNat := Int.pow_pos (by omega)
    have q1 : 0 ≤ x3.1 / 2 ^ x4.1.toNat := Int.ediv_nonneg a2 (by omega)
    have q2 : x3.1 / 2 ^ x4.1.toNat ≤ x3.1 := Int.ediv_le_self _ a2
    refine WP.chk ⟨by omega, by omega⟩ fun _ => ?_
    refine WP.chk ⟨by omega, by omega, by omega⟩ fun _ => ?_
    refine WP.chk ⟨by omega, by omega⟩ fun _ => ?_
    exact WP.ret ⟨b1, by dsimp only; omega, by dsimp only; omega⟩
section
variable {p : AProgram} {i : Int}
theorem rename_sp (hp : WfP p) (hi : inN i p.Funcs.length) (c : DCodes) (hc : okC c) : WP (draw_Rename c p i) fun r => okC r.2 ∧ r.1.To.length = (atD p.Funcs i).Slots.length ∧ r.1.Keep.length = (atD p.Funcs i).Code.length := by
  have hf := hp.func i hi.1 hi.2
  have hsl := hf.slots
  have hcd := hf.code
  unfold draw_Rename
  refine WP.chk hi fun _ => ?_
  refine WP.call (propose31_sp hp hi) fun x1 h1 => ?_
  have t1 := h1.to.1
  have t2 := h1.keep.1
  clear h1
  generalize atD p.Funcs i = f at *
  refine WP.chk (by omega) fun _ => ?_
  refine WP.chk (by omega) fun _ => ?_
  refine WP.join (fun j => okC j.1 ∧ j.2.1.length = f.Slots.length ∧ j.2.2.length = f.Code.length) ?_ ?_
  · rintro ⟨c2, o1, o2⟩ ⟨a1, a2, a3⟩
    dsimp only at a1 a2 a3 ⊢
    refine WP.call (next_sp _ 4 a1 (by omega)) fun x2 ⟨b1, b2, b3, _⟩ => ?_
    have b3 := b3 (by omega)
    refine WP.loop (fun j => 0 ≤ j.1 ∧ j.1 ≤ 3 ∧ okC j.2.1 ∧ j.2.2.1.length = f.Slots.length ∧ j.2.2.2.length = f.Code.length) (fun j => j.1.toNat) ⟨b2, by dsimp only; omega, b1, a2, a3⟩ ?_
    clear a2 a3
    rintro again ⟨n, c3, o3, o4⟩ ⟨d1, d2, d3, d4, d5⟩ ih
    dsimp only at d1 d2 d3 d4 d5 ih ⊢
    refine WP.bif (fun wh => ?_) (fun wh => ?_) <;> (try simp only [decide_eq_true_eq, decide_eq_false_iff_not, Bool.not_eq_true', Bool.not_eq_false', Bool.and_eq_true, Bool.or_eq_true, Bool.not_eq_true, Bool.not_eq_false, Int.not_lt, Int.not_le, ne_eq] at wh)
    · refine WP.join (fun j => okC j.1 ∧ j.2.1.length = f.Slots.length ∧ j.2.2.length = f.Code.length) ?_ ?_
      · rintro ⟨c4, o5, o6⟩ ⟨e1, e2, e3⟩
        dsimp only at e1 e2 e3 ⊢
        refine WP.chk ⟨by omega, by omega⟩ fun _ => ?_
        exact ih _ ⟨by dsimp only; omega, by dsimp only; omega, e1, e2, e3⟩ (by dsimp only; omega)
      intro k2 hk2
      refine WP.call (next_sp _ _ d3 (by omega)) fun x3 ⟨f1, f2, f3, _⟩ => ?_
      have f3 := f3 (by omega)
      refine WP.call (next_sp _ 4 f1 (by omega)) fun x4 ⟨g1, g2, g3, _⟩ => ?_
      have g3 := g3 (by omega)
      have same : ∀ (c : DCodes), okC c → WP (k2 (c, o3, o4)) fun r => okC r.2 ∧ r.1.To.length = f.Slots.length ∧ r.1.Keep.length = f.Code.length := fun c h => hk2 _ ⟨h, d4, d5⟩
      refine WP.join (fun _ => True) ?_ ?_
      · intro b _
        have flip : ∀ (c : DCodes), okC c → WP (M.chk ((0 : Int) ≤ x3.1 ∧ x3.1 < (o4.length : Int)) <| M.chk ((0 : Int) ≤ x3.1 ∧ x3.1 < (o4.length : Int)) <| k2 (c, o3, setD o4 x3.1 (!atD o4 x3.1))) fun r => okC r.2 ∧ r.1.To.length = f.Slots.length ∧ r.1.Keep.length = f.Code.length := fun c h => by
          refine WP.chk ⟨by omega, by omega⟩ fun _ => ?_
          refine WP.chk ⟨by omega, by omega⟩ fun _ => ?_
          exact hk2 _ ⟨h, d4, by dsimp only; rw [length_setD]; exact d5⟩
        refine WP.bif (fun wh => ?_) (fun wh => ?_)
        · refine WP.chk ⟨by omega, by omega⟩ fun _ => ?_
          refine WP.bif (fun _ => flip _ g1) (fun _ => ?_)
          refine WP.bif (fun _ => flip _ g1) (fun _ => ?_)
          refine WP.call (next_sp _ 8 g1 (by omega)) fun x6 ⟨m1, _⟩ => ?_
          exact WP.bif (fun _ => flip _ m1) (fun _ => same _ m1)
        refine WP.bif (fun wh => ?_) (fun wh => ?_)
        · refine WP.bif (fun wh => ?_) (fun _ => same _ g1) <;> (try simp only [decide_eq_true_eq, decide_eq_false_iff_not, Bool.not_eq_true', Bool.not_eq_false', Bool.and_eq_true, Bool.or_eq_true, Bool.not_eq_true, Bool.not_eq_false, Int.not_lt, Int.not_le, ne_eq] at wh)
          refine WP.call (next_sp _ _ g1 (by omega)) fun x7 ⟨m1, m2, m3, _⟩ => ?_
          have m3 := m3 (by omega)
          refine WP.call (like_sp _ f _ m1 ⟨m2, m3⟩ (by omega)) fun x8 ⟨n1, ⟨n2, n3⟩, _⟩ => ?_
          refine WP.chk ⟨by omega, by omega⟩ fun _ => ?_
          refine WP.loop (fun j => (0 ≤ j.1 ∧ j.1 ≤ f.Slots.length) ∧ j.2.length = f.Slots.length) (fun j => f.Slots.length - j.1.toNat) ⟨⟨by simp, by simp⟩, d4⟩ ?_
          rintro again2 ⟨u, o7⟩ ⟨⟨p1, p2⟩, p3⟩ ih2
          dsimp only at p1 p2 p3 ih2 ⊢
          refine WP.bif (fun wh => ?_) (fun _ => hk2 _ ⟨n1, p3, d5⟩) <;> (try simp only [decide_eq_true_eq, decide_eq_false_iff_not, Bool.not_eq_true', Bool.not_eq_false', Bool.and_eq_true, Bool.or_eq_true, Bool.not_eq_true, Bool.not_eq_false, Int.not_lt, Int.not_le, ne_eq] at wh)
          refine WP.chk ⟨by omega, by omega⟩ fun _ => ?_
          refine WP.bif (fun _ => ?_) (fun _ => ?_)
          · refine WP.chk ⟨by omega, by omega⟩ fun _ => ?_
            refine WP.chk ⟨by omega, by omega⟩ fun _ => ?_
            exact ih2 _ ⟨⟨by dsimp only; omega, by dsimp only; omega⟩, by dsimp only; rw [length_setD]; exact p3⟩ (by dsimp only; omega)
          · refine WP.chk ⟨by omega, by omega⟩ fun _ => ?_
            exact ih2 _ ⟨⟨by dsimp only; omega, by dsimp only; omega⟩, p3⟩ (by dsimp only; omega)
        refine WP.bif (fun wh => ?_) (fun _ => same _ g1)
        refine WP.bif (fun wh => ?_) (fun _ => same _ g1) <;> (try simp only [decide_eq_true_eq, decide_eq_false_iff_not, Bool.not_eq_true', Bool.not_eq_false', Bool.and_eq_true, Bool.or_eq_true, Bool.not_eq_true, Bool.not_eq_false, Int.not_lt, Int.not_le, ne_eq] at wh)
        refine WP.call (next_sp _ 4 g1 (by omega)) fun x9 ⟨m1, _⟩ => ?_
        refine WP.bif (fun _ => ?_) (fun _ => same _ m1)
        refine WP.call (next_sp _ _ m1 (by omega)) fun x10 ⟨n1, n2, n3, _⟩ => ?_
        have n3 := n3 (by omega)
        refine WP.call (int_sp _ n1) fun x11 ⟨q1, _⟩ => ?_
        refine WP.chk ⟨by omega, by omega⟩ fun _ => ?_
        exact hk2 _ ⟨q1, by dsimp only; rw [length_setD]; exact d4, d5⟩
      · intro k3 hk3
        exact WP.bif (fun _ => hk3 _ trivial) (fun _ => hk3 _ trivial)
    · exact WP.ret ⟨d3, d4, d5⟩
  · intro k1 hk1
    refine WP.call (next_sp _ 3 hc (by omega)) fun x12 ⟨b1, _⟩ => ?_
    refine WP.bif (fun _ => ?_) (fun _ => hk1 _ ⟨b1, t1, t2⟩)
    refine WP.loop (fun j => (0 ≤ j.1 ∧ j.1 ≤ f.Slots.length) ∧ j.2.length = f.Slots.length) (fun j => f.Slots.length - j.1.toNat) ⟨⟨by simp, by simp⟩, t1⟩ ?_
    rintro again3 ⟨s, o8⟩ ⟨⟨p1, p2⟩, p3⟩ ih3
    dsimp only at p1 p2 p3 ih3 ⊢
    refine WP.bif (fun wh => ?_) (fun _ => ?_) <;> (try simp only [decide_eq_true_eq, decide_eq_false_iff_not, Bool.not_eq_true', Bool.not_eq_false', Bool.and_eq_true, Bool.or_eq_true, Bool.not_eq_true, Bool.not_eq_false, Int.not_lt, Int.not_le, ne_eq] at wh)
    · refine WP.chk ⟨by omega, by omega⟩ fun _ => ?_
      refine WP.chk ⟨by omega, by omega⟩ fun _ => ?_
      exact ih3 _ ⟨⟨by dsimp only; omega, by dsimp only; omega⟩, by dsimp only; rw [length_setD]; exact p3⟩ (by dsimp only; omega)
    · refine WP.loop (fun j => (0 ≤ j.1 ∧ j.1 ≤ f.Code.length) ∧ j.2.length = f.Code.length) (fun j => f.Code.length - j.1.toNat) ⟨⟨by simp, by simp⟩, t2⟩ ?_
      rintro again4 ⟨q, o9⟩ ⟨⟨q1, q2⟩, q3⟩ ih4
      dsimp only at q1 q2 q3 ih4 ⊢
      refine WP.bif (fun wh => ?_) (fun _ => hk1 _ ⟨b1, p3, q3⟩) <;> (try simp only [decide_eq_true_eq, decide_eq_false_iff_not, Bool.not_eq_true', Bool.not_eq_false', Bool.and_eq_true, Bool.or_eq_true, Bool.not_eq_true, Bool.not_eq_false, Int.not_lt, Int.not_le, ne_eq] at wh)
      refine WP.chk ⟨by omega, by omega⟩ fun _ => ?_
      refine WP.chk ⟨by omega, by omega⟩ fun _ => ?_
      exact ih4 _ ⟨⟨by dsimp only; omega, by dsimp only; omega⟩, by dsimp only; rw [length_setD]; exact q3⟩ (by dsimp only; omega)
end
end Go.Proofs.YtlhaoijkffhafaaGreatDoor.Q
