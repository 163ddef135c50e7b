/- Renamings: which slices are valid, what they save, the members of classes. -/
import Derived.Test.YtechhjednmnmpaaP18
set_option linter.unusedVariables false
set_option linter.unusedSimpArgs false
namespace Go.Proofs.Ytechhjednmnmpaa.Q
/-- A renaming of slots. -/
def ValidP (f : AFunc) (to : List Int) : Prop := to.length = f.Slots.length ∧ ∀ s, inN s to.length → inN (atD to s) to.length ∧ (atD f.Slots (atD to s)).Size = (atD f.Slots s).Size ∧ atD to (atD to s) = atD to s
theorem cvalid_sp (f : AFunc) (to : List Int) (hs : f.Slots.length ≤ 1000) : WP (coalesce_Valid f to) fun r => (r = true ↔ ValidP f to) := by
  unfold coalesce_Valid
  refine WP.bif (fun wh => ?_) (fun wh => ?_)
  · rw [Bool.not_eq_true', decide_eq_false_iff_not] at wh
    exact WP.ret ⟨fun q => (by cases q), fun q => (wh (by rw [q.1])).elim⟩
  rw [Bool.not_eq_false', decide_eq_true_eq] at wh
  have hl : to.length = f.Slots.length := by omega
  refine WP.loop (fun j => (0 ≤ j ∧ j ≤ to.length) ∧ ∀ s, 0 ≤ s → s < j → inN (atD to s) to.length ∧ (atD f.Slots (atD to s)).Size = (atD f.Slots s).Size ∧ atD to (atD to s) = atD to s) (fun j => to.length - j.toNat) ⟨⟨by omega, by omega⟩, fun s h1 h2 => by exfalso; omega⟩ ?_
  rintro again t ⟨⟨b1, b2⟩, b3⟩ ih
  refine WP.bif (fun wh => ?_) (fun wh => ?_) <;> (try simp only [wpH, ne_eq] at wh)
  · have htl := wh
    refine WP.chk ⟨b1, wh⟩ fun _ => ?_
    refine WP.bif (fun wh => ?_) (fun wh => ?_) <;> (try simp only [wpH, ne_eq] at wh)
    · exact WP.ret ⟨fun q => (by cases q), fun q => by have := (q.2 t ⟨b1, htl⟩).1.1; omega⟩
    have h0 := wh
    refine WP.bif (fun wh => ?_) (fun wh => ?_) <;> (try simp only [wpH, ne_eq] at wh)
    · exact WP.ret ⟨fun q => (by cases q), fun q => by have := (q.2 t ⟨b1, htl⟩).1.2; omega⟩
    have h1 := wh
    refine WP.chk ⟨h0, by omega⟩ fun _ => ?_
    refine WP.chk ⟨b1, by omega⟩ fun _ => ?_
    refine WP.bif (fun wh => ?_) (fun wh => ?_) <;> (try simp only [wpH, ne_eq] at wh)
    · exact WP.ret ⟨fun q => (by cases q), fun q => (wh (q.2 t ⟨b1, htl⟩).2.1).elim⟩
    have hz := wh
    refine WP.chk ⟨h0, h1⟩ fun _ => ?_
    refine WP.bif (fun wh => ?_) (fun wh => ?_) <;> (try simp only [wpH, ne_eq] at wh)
    · exact WP.ret ⟨fun q => (by cases q), fun q => (wh (q.2 t ⟨b1, htl⟩).2.2).elim⟩
    refine WP.chk ⟨by omega, by omega⟩ fun _ => ?_
    refine ih _ ⟨⟨by omega, by omega⟩, fun s g1 g2 => ?_⟩ (by omega)
    by_cases hs : s = t
    · rw [hs]; exact ⟨⟨h0, h1⟩, hz, wh⟩
    · exact b3 s g1 (by omega)
  · exact WP.ret ⟨fun _ => ⟨hl, fun s hs => b3 s hs.1 (by have := hs.2; omega)⟩, fun _ => rfl⟩
section
variable {n i par : Int} {f : AFunc}
end
theorem cmembers_sp (to : List Int) (s : Int) (hl : to.length ≤ 1000000) : WP (coalesce_Members to s) (· = membS to s) := by
  have h := members_sp to s hl
  unfold r19_Members at h
  unfold coalesce_Members
  exact h
end Go.Proofs.Ytechhjednmnmpaa.Q
