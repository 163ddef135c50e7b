/- Renamings: which slices are valid, what they save, the members of classes. -/
import Derived.Test.YtjnfnochdefpjaaGreatP18
set_option linter.unusedVariables false
set_option linter.unusedSimpArgs false
namespace Go.Proofs.YtjnfnochdefpjaaGreat.Q
/-- A renaming of slots. -/
def ValidP (f : AFunc) (to : List Int) : Prop := to.length = f.Slots.length ∧ ∀ s, inN s to.length → inN (atD to s) to.length ∧ (atD f.Slots (atD to s)).Size = (atD f.Slots s).Size ∧ atD to (atD to s) = atD to s
theorem rvalid_sp (f : AFunc) (to : List Int) (hs : f.Slots.length ≤ 1000) : WP (r19_Valid f to) fun r => (r = true ↔ ValidP f to) := by
  unfold r19_Valid
  refine WP.bif (fun wh => ?_) (fun wh => ?_)
  · rw [Bool.not_eq_true', decide_eq_false_iff_not] at wh
    exact WP.ret ⟨fun q => (by cases q), fun q => (wh (by rw [q.1])).elim⟩
  rw [Bool.not_eq_false', decide_eq_true_eq] at wh
  have hl : to.length = f.Slots.length := by omega
  refine WP.loop (fun j => (0 ≤ j ∧ j ≤ to.length) ∧ ∀ s, 0 ≤ s → s < j → inN (atD to s) to.length) (fun j => to.length - j.toNat) ⟨⟨by omega, by omega⟩, fun s h1 h2 => by exfalso; omega⟩ ?_
  rintro again k ⟨⟨a1, a2⟩, a3⟩ ih
  refine WP.bif (fun wh => ?_) (fun wh => ?_) <;> (try simp only [wpH, ne_eq] at wh)
  · have hkl := wh
    refine WP.chk ⟨a1, wh⟩ fun _ => ?_
    refine WP.bif (fun wh => ?_) (fun wh => ?_) <;> (try simp only [wpH, ne_eq] at wh)
    · exact WP.ret ⟨fun q => (by cases q), fun q => by have := (q.2 k ⟨a1, hkl⟩).1.1; omega⟩
    have h0 := wh
    refine WP.chk ⟨a1, hkl⟩ fun _ => ?_
    refine WP.bif (fun wh => ?_) (fun wh => ?_) <;> (try simp only [wpH, ne_eq] at wh)
    · exact WP.ret ⟨fun q => (by cases q), fun q => by have := (q.2 k ⟨a1, hkl⟩).1.2; omega⟩
    refine WP.chk ⟨by omega, by omega⟩ fun _ => ?_
    refine ih _ ⟨⟨by omega, by omega⟩, fun s h1 h2 => ?_⟩ (by omega)
    by_cases hs : s = k
    · rw [hs]; exact ⟨h0, wh⟩
    · exact a3 s h1 (by omega)
  · refine WP.loop (fun j => (0 ≤ j ∧ j ≤ to.length) ∧ ∀ s, 0 ≤ s → s < j → (atD f.Slots (atD to s)).Size = (atD f.Slots s).Size ∧ atD to (atD to s) = atD to s) (fun j => to.length - j.toNat) ⟨⟨by omega, by omega⟩, fun s h1 h2 => by exfalso; omega⟩ ?_
    rintro again2 t ⟨⟨b1, b2⟩, b3⟩ ih2
    refine WP.bif (fun wh => ?_) (fun wh => ?_) <;> (try simp only [wpH, ne_eq] at wh)
    · have htl := wh
      obtain ⟨c1, c2⟩ := a3 t b1 (by omega)
      refine WP.chk ⟨b1, wh⟩ fun _ => ?_
      refine WP.chk ⟨c1, by omega⟩ fun _ => ?_
      refine WP.chk ⟨b1, by omega⟩ fun _ => ?_
      refine WP.bif (fun wh => ?_) (fun wh => ?_) <;> (try simp only [wpH, ne_eq] at wh)
      · exact WP.ret ⟨fun q => (by cases q), fun q => (wh (q.2 t ⟨b1, htl⟩).2.1).elim⟩
      have hz := wh
      refine WP.chk ⟨b1, htl⟩ fun _ => ?_
      refine WP.chk ⟨c1, c2⟩ fun _ => ?_
      refine WP.chk ⟨b1, htl⟩ fun _ => ?_
      refine WP.bif (fun wh => ?_) (fun wh => ?_) <;> (try simp only [wpH, ne_eq] at wh)
      · exact WP.ret ⟨fun q => (by cases q), fun q => (wh (q.2 t ⟨b1, htl⟩).2.2).elim⟩
      refine WP.chk ⟨by omega, by omega⟩ fun _ => ?_
      refine ih2 _ ⟨⟨by omega, by omega⟩, fun s h1 h2 => ?_⟩ (by omega)
      by_cases hs : s = t
      · rw [hs]; exact ⟨hz, wh⟩
      · exact b3 s h1 (by omega)
    · exact WP.ret ⟨fun _ => ⟨hl, fun s hs => ⟨a3 s hs.1 (by have := hs.2; omega), b3 s hs.1 (by have := hs.2; omega)⟩⟩, fun _ => rfl⟩
section
variable {n i par : Int} {f : AFunc}
end
end Go.Proofs.YtjnfnochdefpjaaGreat.Q
