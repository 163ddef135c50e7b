/- Padding: what it counts; the law. -/
import Derived.Test.YtbppgdffochdmaaP24c
set_option linter.unusedVariables false
set_option linter.unusedSimpArgs false
namespace Go.Proofs.Ytbppgdffochdmaa.Q
def clampI (x s : Int) : Int := if x ≤ 0 then 0 else if s ≤ x then s else x
def sumI (g : Int → Int) : Nat → Int
  | 0 => 0
  | m + 1 => sumI g m + g m
theorem sumI_congr {g g' : Int → Int} : ∀ {m : Nat}, (∀ j, 0 ≤ j → j < (m : Int) → g j = g' j) → sumI g m = sumI g' m
  | 0, _ => rfl
  | m + 1, h => by
    unfold sumI
    rw [sumI_congr (m := m) fun j h1 h2 => h j h1 (by omega), h m (by omega) (by omega)]
theorem sumI_bd {g : Int → Int} {c : Int} : ∀ {m : Nat}, (∀ j, 0 ≤ j → j < (m : Int) → 0 ≤ g j ∧ g j ≤ c) → 0 ≤ sumI g m ∧ sumI g m ≤ c * m
  | 0, _ => by simp [sumI]
  | m + 1, h => by
    unfold sumI
    have h1 := sumI_bd (m := m) (c := c) fun j h1 h2 => h j h1 (by omega)
    have h2 := h m (by omega) (by omega)
    rw [Int.natCast_succ, Int.mul_add]
    omega
theorem clamp_step (b o s : Int) (hs : 0 ≤ s) : clampI (b + 1 - o) s = clampI (b - o) s + (if o ≤ b ∧ b < o + s then 1 else 0) := by
  unfold clampI
  split <;> split <;> (try split) <;> (try split) <;> omega
section
variable {off size : Int → Int} {n : Nat}
/-- The bytes below b that belong to ranges. -/
def takenT (off size : Int → Int) (m : Nat) (b : Int) : Int := sumI (fun j => clampI (b - off j) (size j)) m
theorem taken_step (hs : ∀ j, 0 ≤ j → j < (n : Int) → 0 ≤ size j) (hd : ∀ k j, 0 ≤ j → j < k → k < (n : Int) → off j + size j ≤ off k) (b : Int) : ∀ (m : Nat), m ≤ n → ((∃ j, 0 ≤ j ∧ j < (m : Int) ∧ off j ≤ b ∧ b < off j + size j) → takenT off size m (b + 1) = takenT off size m b + 1) ∧ ((¬ ∃ j, 0 ≤ j ∧ j < (m : Int) ∧ off j ≤ b ∧ b < off j + size j) → takenT off size m (b + 1) = takenT off size m b)
  | 0, _ => ⟨fun ⟨j, h1, h2, _⟩ => by exfalso; omega, fun _ => rfl⟩
  | m + 1, hm => by
    obtain ⟨i1, i2⟩ := taken_step hs hd b m (by omega)
    have e : ∀ c, takenT off size (m + 1) c = takenT off size m c + clampI (c - off m) (size m) := fun c => rfl
    rw [e, e, clamp_step b (off m) (size m) (hs m (by omega) (by omega))]
    by_cases hc : off m ≤ b ∧ b < off m + size m
    · rw [if_pos hc]
      have hno : ¬ ∃ j, 0 ≤ j ∧ j < (m : Int) ∧ off j ≤ b ∧ b < off j + size j := by
        rintro ⟨j, h1, h2, h3, h4⟩
        have := hd m j h1 h2 (by omega)
        omega
      rw [i2 hno]
      exact ⟨fun _ => by omega, fun h => (h ⟨m, by omega, by omega, hc.1, hc.2⟩).elim⟩
    · rw [if_neg hc]
      refine ⟨fun ⟨j, h1, h2, h3, h4⟩ => ?_, fun h => ?_⟩
      · have hj : j ≠ m := fun q => hc (by rw [← q]; exact ⟨h3, h4⟩)
        rw [i1 ⟨j, h1, by omega, h3, h4⟩]; omega
      · rw [i2 fun ⟨j, h1, h2, h3, h4⟩ => h ⟨j, h1, by omega, h3, h4⟩]; omega
end
theorem repD_false (n k : Int) : atD (repD n : List Bool) k = false := by
  unfold atD repD
  rw [List.getD_eq_getElem?_getD, List.getElem?_replicate]
  split <;> rfl
theorem padding_sp {p : AProgram} {i args z : Int} {l : List ASlot} {off : List Int} (hi : inN i p.Funcs.length) (f2 : (atD p.Funcs i).Slots = l) (h0 : 0 ≤ args) (hz : args ≤ z) (hz2 : z ≤ 1000000) (hlen : off.length = l.length) (hl : l.length ≤ 1000)
    (hof : ∀ k, inN k l.length → args ≤ atD off k ∧ 0 ≤ (atD l k).Size ∧ atD off k + (atD l k).Size ≤ z ∧ ∀ j, 0 ≤ j → j < k → atD off j + (atD l j).Size ≤ atD off k) :
    WP (pack_Padding p i ⟨args, z, off⟩) (· = z - args - sumI (fun j => (atD l j).Size) l.length) := by
  unfold pack_Padding
  dsimp only
  refine WP.bif (fun wh => ?_) fun _ => ?_
  · exfalso; rw [decide_eq_true_eq] at wh; omega
  refine WP.bif (fun wh => ?_) fun _ => ?_
  · exfalso; rw [decide_eq_true_eq] at wh; omega
  refine WP.chk ⟨by omega, by omega⟩ fun _ => ?_
  refine WP.chk hi fun _ => ?_
  rw [f2]
  refine WP.loop (fun j => (0 ≤ j.1 ∧ j.1 ≤ l.length) ∧ (j.2.length : Int) = z ∧ ∀ b, 0 ≤ b → b < z → (atD j.2 b = true ↔ ∃ k, 0 ≤ k ∧ k < j.1 ∧ atD off k ≤ b ∧ b < atD off k + (atD l k).Size)) (fun j => l.length - j.1.toNat) ⟨⟨by simp, by simp⟩, by dsimp only; rw [length_repD]; omega, fun b h1 h2 => ?_⟩ ?_
  · dsimp only
    rw [repD_false]
    refine ⟨fun q => (by cases q), ?_⟩
    rintro ⟨k, q1, q2, _⟩
    exfalso; omega
  rintro again1 ⟨k, tk⟩ ⟨⟨a1, a2⟩, a3, a4⟩ ih1
  dsimp only at a1 a2 a3 a4 ih1 ⊢
  refine WP.bif (fun wh => ?_) (fun wh => ?_) <;> (try simp only [decide_eq_true_eq, decide_eq_false_iff_not, Bool.not_eq_true', Bool.not_eq_false', Bool.and_eq_true, Bool.or_eq_true, Bool.not_eq_true, Bool.not_eq_false, Int.not_lt, Int.not_le, ne_eq] at wh)
  · have hkl := wh
    obtain ⟨o1, o2, o3, o4⟩ := hof k ⟨a1, wh⟩
    refine WP.chk ⟨by omega, by omega⟩ fun _ => ?_
    refine WP.chk ⟨by omega, by omega⟩ fun _ => ?_
    refine WP.loop (fun j => (atD off k ≤ j.1 ∧ j.1 ≤ atD off k + (atD l k).Size) ∧ (j.2.length : Int) = z ∧ ∀ b, 0 ≤ b → b < z → (atD j.2 b = true ↔ (∃ t, 0 ≤ t ∧ t < k ∧ atD off t ≤ b ∧ b < atD off t + (atD l t).Size) ∨ (atD off k ≤ b ∧ b < j.1))) (fun j => (atD off k + (atD l k).Size - j.1).toNat) ⟨⟨by simp, by dsimp only; omega⟩, a3, fun b h1 h2 => ?_⟩ ?_
    · dsimp only
      rw [a4 b h1 h2]
      refine ⟨.inl, fun q => q.resolve_right fun q2 => by omega⟩
    rintro again2 ⟨b, t2⟩ ⟨⟨b1, b2⟩, b3, b4⟩ ih2
    dsimp only at b1 b2 b3 b4 ih2 ⊢
    refine WP.chk ⟨by omega, by omega⟩ fun _ => ?_
    refine WP.chk ⟨by omega, by omega⟩ fun _ => ?_
    refine WP.bif (fun wh => ?_) (fun wh => ?_) <;> (try simp only [decide_eq_true_eq, decide_eq_false_iff_not, Bool.not_eq_true', Bool.not_eq_false', Bool.and_eq_true, Bool.or_eq_true, Bool.not_eq_true, Bool.not_eq_false, Int.not_lt, Int.not_le, ne_eq] at wh)
    · have hbl := wh
      refine WP.chk ⟨by omega, by omega⟩ fun _ => ?_
      refine WP.chk ⟨by omega, by omega⟩ fun _ => ?_
      refine ih2 _ ⟨⟨by dsimp only; omega, by dsimp only; omega⟩, by dsimp only; rw [length_setD, b3], fun c h1 h2 => ?_⟩ (by dsimp only; omega)
      dsimp only
      rw [atD_setD ⟨by omega, by omega⟩ h1]
      split
      · rename_i q; subst q
        exact ⟨fun _ => .inr ⟨by omega, by omega⟩, fun _ => rfl⟩
      · rw [b4 c h1 h2]
        constructor
        · rintro (q | q)
          · exact .inl q
          · exact .inr ⟨q.1, by omega⟩
        · rintro (q | q)
          · exact .inl q
          · exact .inr ⟨q.1, by omega⟩
    · refine WP.chk ⟨by omega, by omega⟩ fun _ => ?_
      refine ih1 _ ⟨⟨by dsimp only; omega, by dsimp only; omega⟩, b3, fun c h1 h2 => ?_⟩ (by dsimp only; omega)
      dsimp only
      rw [b4 c h1 h2]
      constructor
      · rintro (⟨t, q1, q2, q3, q4⟩ | q)
        · exact ⟨t, q1, by omega, q3, q4⟩
        · exact ⟨k, a1, by omega, q.1, by omega⟩
      · rintro ⟨t, q1, q2, q3, q4⟩
        by_cases ht : t = k
        · subst ht; exact .inr ⟨q3, by omega⟩
        · exact .inl ⟨t, q1, by omega, q3, q4⟩
  · have hk : k = l.length := by omega
    subst hk
    have hstep := taken_step (off := fun j => atD off j) (size := fun j => (atD l j).Size) (n := l.length) (fun j h1 h2 => (hof j ⟨h1, h2⟩).2.1) (fun k j h1 h2 h3 => (hof k ⟨by omega, h3⟩).2.2.2 j h1 h2)
    have hT0 : takenT (fun j => atD off j) (fun j => (atD l j).Size) l.length args = 0 := by
      have : takenT (fun j => atD off j) (fun j => (atD l j).Size) l.length args = sumI (fun _ => 0) l.length := sumI_congr fun j h1 h2 => by
        have := (hof j ⟨h1, h2⟩).1
        dsimp only
        unfold clampI
        rw [if_pos (by omega)]
      rw [this]
      have := sumI_bd (g := fun _ => 0) (c := 0) (m := l.length) fun _ _ _ => ⟨Int.le_refl _, Int.le_refl _⟩
      omega
    have hTz : takenT (fun j => atD off j) (fun j => (atD l j).Size) l.length z = sumI (fun j => (atD l j).Size) l.length := sumI_congr fun j h1 h2 => by
      have h3 := hof j ⟨h1, h2⟩
      dsimp only
      unfold clampI
      split
      · omega
      · split <;> omega
    refine WP.loop (fun j => (args ≤ j.2 ∧ j.2 ≤ z) ∧ (0 ≤ j.1 ∧ j.1 ≤ j.2) ∧ j.1 = j.2 - args - takenT (fun j => atD off j) (fun j => (atD l j).Size) l.length j.2) (fun j => (z - j.2).toNat) ⟨⟨by simp, hz⟩, ⟨by simp, h0⟩, by dsimp only; rw [hT0]; omega⟩ ?_
    rintro again3 ⟨m, b⟩ ⟨⟨b1, b2⟩, ⟨b3, b4⟩, b5⟩ ih3
    dsimp only at b1 b2 b3 b4 b5 ih3 ⊢
    refine WP.bif (fun wh => ?_) (fun wh => ?_) <;> (try simp only [decide_eq_true_eq, decide_eq_false_iff_not, Bool.not_eq_true', Bool.not_eq_false', Bool.and_eq_true, Bool.or_eq_true, Bool.not_eq_true, Bool.not_eq_false, Int.not_lt, Int.not_le, ne_eq] at wh)
    · have hbl := wh
      obtain ⟨s1, s2⟩ := hstep b l.length (Nat.le_refl _)
      have hb := a4 b (by omega) wh
      refine WP.chk ⟨by omega, by omega⟩ fun _ => ?_
      refine WP.bif (fun wh => ?_) (fun wh => ?_)
      · have hnt : ¬ ∃ j, 0 ≤ j ∧ j < ((l.length : Nat) : Int) ∧ atD off j ≤ b ∧ b < atD off j + (atD l j).Size := fun q => by
          rw [hb.2 q] at wh; cases wh
        have := s2 hnt
        refine WP.chk ⟨by omega, by omega⟩ fun _ => ?_
        refine WP.chk ⟨by omega, by omega⟩ fun _ => ?_
        exact ih3 _ ⟨⟨by dsimp only; omega, by dsimp only; omega⟩, ⟨by dsimp only; omega, by dsimp only; omega⟩, by dsimp only; omega⟩ (by dsimp only; omega)
      · have ht : ∃ j, 0 ≤ j ∧ j < ((l.length : Nat) : Int) ∧ atD off j ≤ b ∧ b < atD off j + (atD l j).Size := hb.1 (by simpa using wh)
        have := s1 ht
        refine WP.chk ⟨by omega, by omega⟩ fun _ => ?_
        exact ih3 _ ⟨⟨by dsimp only; omega, by dsimp only; omega⟩, ⟨by dsimp only; omega, by dsimp only; omega⟩, by dsimp only; omega⟩ (by dsimp only; omega)
    · have hbz : b = z := by omega
      subst hbz
      exact WP.ret (by rw [b5, hTz])
end Go.Proofs.Ytbppgdffochdmaa.Q
