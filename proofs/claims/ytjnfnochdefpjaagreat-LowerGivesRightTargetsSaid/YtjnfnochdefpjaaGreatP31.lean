/- Proposals: the classes are a renaming. -/
import Derived.Test.YtjnfnochdefpjaaGreatP21b
set_option linter.unusedVariables false
set_option linter.unusedSimpArgs false
namespace Go.Proofs.YtjnfnochdefpjaaGreat.Q
def mrg (u v x : Int) : Int := if x = u ∨ x = v then min u v else x
theorem ValidP.merge {f : AFunc} {t t' : List Int} {a b : Int} (h : ValidP f t) (hl : t'.length = t.length) (ha : inN a t.length) (hb : inN b t.length) (hz : (atD f.Slots a).Size = (atD f.Slots b).Size) (ht : ∀ s, inN s t.length → atD t' s = mrg (atD t a) (atD t b) (atD t s)) : ValidP f t' := by
  obtain ⟨h1, h2⟩ := h
  obtain ⟨⟨a1, a2⟩, a3, a4⟩ := h2 a ha
  obtain ⟨⟨b1, b2⟩, b3, b4⟩ := h2 b hb
  refine ⟨by omega, fun s hs => ?_⟩
  rw [hl] at hs ⊢
  obtain ⟨⟨s1, s2⟩, s3, s4⟩ := h2 s hs
  have hc : min (atD t a) (atD t b) = atD t a ∨ min (atD t a) (atD t b) = atD t b := by omega
  have hci : inN (min (atD t a) (atD t b)) t.length := ⟨by omega, by omega⟩
  have hcc : atD t (min (atD t a) (atD t b)) = min (atD t a) (atD t b) := by
    rcases hc with q | q <;> rw [q] <;> assumption
  rw [ht s hs]
  unfold mrg
  split
  · rename_i h
    refine ⟨hci, ?_, ?_⟩
    · have e1 : (atD f.Slots (min (atD t a) (atD t b))).Size = (atD f.Slots a).Size := by
        rcases hc with q | q <;> rw [q]
        · exact a3
        · rw [b3, hz]
      have e2 : (atD f.Slots (atD t s)).Size = (atD f.Slots a).Size := by
        rcases h with q | q <;> rw [q]
        · exact a3
        · rw [b3, hz]
      rw [e1, ← e2, s3]
    · rw [ht _ hci, hcc]
      unfold mrg
      split
      · rfl
      · rfl
  · rename_i h
    refine ⟨⟨s1, s2⟩, s3, ?_⟩
    rw [ht _ ⟨s1, s2⟩, s4]
    unfold mrg
    rw [if_neg h]
section
variable {n i par : Int} {f : AFunc} {g : List (List Int)}
theorem classes19v_sp (hf : WfF n i par f) (hg : f.Slots.length ≤ g.length) (hgl : ∀ s, inN s g.length → (atD g s).length ≤ 1000000) : WP (r19_Classes f g) (ValidP f) := by
  have hc := hf.code
  have hsl := hf.slots
  unfold r19_Classes
  refine WP.loop (fun j => (0 ≤ j.1 ∧ j.1 ≤ f.Slots.length) ∧ (j.2.length : Int) = j.1 ∧ ∀ s, inN s j.2.length → atD j.2 s = s) (fun j => f.Slots.length - j.1.toNat) ⟨⟨by simp, by simp⟩, by simp, fun s hs => by have := hs.1; have := hs.2; simp at this; omega⟩ ?_
  rintro again1 ⟨s, to⟩ ⟨⟨a1, a2⟩, a3, a4⟩ ih1
  dsimp only at a1 a2 a3 a4 ih1 ⊢
  refine WP.bif (fun wh => ?_) (fun wh => ?_) <;> (try simp only [wpH, ne_eq] at wh)
  · have hlt := wh
    refine WP.chk (by simp only [List.length_singleton]; omega) fun _ => ?_
    refine WP.chk ⟨by omega, by omega⟩ fun _ => ?_
    refine ih1 _ ⟨⟨by dsimp only; omega, by dsimp only; omega⟩, by simp only [List.length_append, List.length_singleton]; omega, fun t ht => ?_⟩ (by dsimp only; omega)
    dsimp only at ht ⊢
    obtain ⟨h1, h2⟩ := ht
    simp only [List.length_append, List.length_singleton] at h2
    by_cases h : t = to.length
    · rw [atD_last h]; omega
    · rw [atD_append_left (by omega)]; exact a4 t ⟨h1, by omega⟩
  · refine WP.call (moves18_sp hf) fun mv ⟨m1, m2⟩ => ?_
    refine WP.loop (fun j => (0 ≤ j.1 ∧ j.1 ≤ mv.length) ∧ ValidP f j.2) (fun j => mv.length - j.1.toNat) ⟨⟨by simp, by simp⟩, by dsimp only; omega, fun t ht => ?_⟩ ?_
    · dsimp only at ht ⊢
      have e := a4 t ht
      rw [e, e]
      exact ⟨ht, rfl, rfl⟩
    rintro again2 ⟨k, t2⟩ ⟨⟨b1, b2⟩, b3⟩ ih2
    dsimp only at b1 b2 b3 ih2 ⊢
    have hlen := b3.1
    refine WP.bif (fun wh => ?_) (fun wh => ?_) <;> (try simp only [wpH, ne_eq] at wh)
    · have hkl := wh
      obtain ⟨kk, hkk, h17, hmk, ⟨p1, p2⟩, ⟨p3, p4⟩, _⟩ := m2 _ (atD_mem ⟨b1, wh⟩)
      have hsz : (atD f.Slots (atD mv k).e0).Size = (atD f.Slots (atD mv k).e1).Size := by
        rw [hmk]
        have hI := hf.at_ hkk
        generalize atD f.Code kk = x at *
        cases hI <;> first | assumption | (simp at h17; done) | (exfalso; dsimp only at h17; omega)
      clear hmk
      have e0 := (b3.2 _ ⟨p1, by omega⟩).1
      have e1 := (b3.2 _ ⟨p3, by omega⟩).1
      generalize hm : atD mv k = m at *
      refine WP.chk ⟨by omega, by omega⟩ fun _ => ?_
      refine WP.chk ⟨by omega, by omega⟩ fun _ => ?_
      refine WP.chk ⟨by omega, by omega⟩ fun _ => ?_
      refine WP.chk ⟨by omega, by omega⟩ fun _ => ?_
      refine WP.bif (fun wh => ?_) (fun wh => ?_) <;> (try simp only [wpH, ne_eq] at wh)
      · refine WP.chk ⟨by omega, by omega⟩ fun _ => ?_
        exact ih2 _ ⟨⟨by dsimp only; omega, by dsimp only; omega⟩, b3⟩ (by dsimp only; omega)
      refine WP.call (apart_sp g t2 _ _ (by omega) (by omega) hgl) fun x2 hx2 => ?_
      refine WP.bif (fun wh => ?_) (fun wh => ?_) <;> (try simp only [wpH, ne_eq] at wh)
      · refine WP.chk ⟨by omega, by omega⟩ fun _ => ?_
        exact ih2 _ ⟨⟨by dsimp only; omega, by dsimp only; omega⟩, b3⟩ (by dsimp only; omega)
      refine WP.loop (fun j => (0 ≤ j.1 ∧ j.1 ≤ t2.length) ∧ j.2.length = t2.length ∧ (∀ s, 0 ≤ s → s < j.1 → atD j.2 s = mrg (atD t2 m.e0) (atD t2 m.e1) (atD t2 s)) ∧ ∀ s, j.1 ≤ s → s < t2.length → atD j.2 s = atD t2 s) (fun j => t2.length - j.1.toNat) ⟨⟨by simp, by simp⟩, rfl, fun s h1 h2 => by exfalso; dsimp only at h2; omega, fun _ _ _ => rfl⟩ ?_
      rintro again3 ⟨q, t3⟩ ⟨⟨d1, d2⟩, d3, d4, d5⟩ ih3
      dsimp only at d1 d2 d3 d4 d5 ih3 ⊢
      refine WP.bif (fun wh => ?_) (fun wh => ?_) <;> (try simp only [wpH, ne_eq] at wh)
      · have hql := wh
        have e5 := d5 q (Int.le_refl _) (by omega)
        have hgo : (atD t3 q = atD t2 m.e0 ∨ atD t3 q = atD t2 m.e1) → WP (again3 (q + 1, setD t3 q (min (atD t2 m.e0) (atD t2 m.e1)))) (ValidP f) := fun hh => by
          refine ih3 _ ⟨⟨by dsimp only; omega, by dsimp only; omega⟩, by dsimp only; rw [length_setD, d3], fun s h1 h2 => ?_, fun s h1 h2 => ?_⟩ (by dsimp only; omega)
          · dsimp only at h2 ⊢
            rw [atD_setD ⟨d1, by omega⟩ h1]
            split
            · rename_i hs; subst hs
              unfold mrg
              rw [← e5, if_pos hh]
            · exact d4 s h1 (by omega)
          · dsimp only at h1 ⊢
            rw [atD_setD ⟨d1, by omega⟩ (by omega), if_neg (by omega)]
            exact d5 s (by omega) h2
        refine WP.chk ⟨by omega, by omega⟩ fun _ => ?_
        refine WP.bif (fun wh => ?_) (fun wh => ?_) <;> (try simp only [wpH, ne_eq] at wh)
        · have hh := wh
          refine WP.chk ⟨by omega, by omega⟩ fun _ => ?_
          refine WP.chk ⟨by omega, by omega⟩ fun _ => ?_
          exact hgo (.inl hh)
        · have hn0 := wh
          refine WP.chk ⟨by omega, by omega⟩ fun _ => ?_
          refine WP.bif (fun wh => ?_) (fun wh => ?_) <;> (try simp only [wpH, ne_eq] at wh)
          · have hh := wh
            refine WP.chk ⟨by omega, by omega⟩ fun _ => ?_
            refine WP.chk ⟨by omega, by omega⟩ fun _ => ?_
            exact hgo (.inr hh)
          · refine WP.chk ⟨by omega, by omega⟩ fun _ => ?_
            refine ih3 _ ⟨⟨by dsimp only; omega, by dsimp only; omega⟩, d3, fun s h1 h2 => ?_, fun s h1 h2 => d5 s (by dsimp only at h1; omega) h2⟩ (by dsimp only; omega)
            dsimp only at h2 ⊢
            by_cases hs : s = q
            · subst hs
              unfold mrg
              rw [← e5, if_neg (fun h => h.elim hn0 wh)]
            · exact d4 s h1 (by omega)
      · refine WP.chk ⟨by omega, by omega⟩ fun _ => ?_
        exact ih2 _ ⟨⟨by dsimp only; omega, by dsimp only; omega⟩, b3.merge d3 ⟨p1, by omega⟩ ⟨p3, by omega⟩ hsz fun s hs => d4 s hs.1 (by have := hs.2; omega)⟩ (by dsimp only; omega)
    · exact WP.ret b3
end
end Go.Proofs.YtjnfnochdefpjaaGreat.Q
