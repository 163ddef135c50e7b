/- Proposals: the classes are a renaming. -/
import Derived.Test.YtechhjednmnmpaaP21b
set_option linter.unusedVariables false
set_option linter.unusedSimpArgs false
namespace Go.Proofs.Ytechhjednmnmpaa.Q
def mrg (u v x : Int) : Int := if x = u ∨ x = v then min u v else x
theorem ValidP.merge {f : AFunc} {t t' : List Int} {a b : Int} (h : ValidP f t) (hl : t'.length = t.length) (ha : inN a t.length) (hb : inN b t.length) (hz : (atD f.Slots a).Size = (atD f.Slots b).Size) (ht : ∀ s, inN s t.length → atD t' s = mrg (atD t a) (atD t b) (atD t s)) : ValidP f t' := by
  obtain ⟨h1, h2⟩ := h
  obtain ⟨⟨a1, a2⟩, a3, a4⟩ := h2 a ha
  obtain ⟨⟨b1, b2⟩, b3, b4⟩ := h2 b hb
  refine ⟨by omega, fun s hs => ?_⟩
  rw [hl] at hs ⊢
  obtain ⟨⟨s1, s2⟩, s3, s4⟩ := h2 s hs
  have hc : min (atD t a) (atD t b) = atD t a ∨ min (atD t a) (atD t b) = atD t b := by omega
  have hci : inN (min (atD t a) (atD t b)) t.length := ⟨by omega, by omega⟩
  have hcc : atD t (min (atD t a) (atD t b)) = min (atD t a) (atD t b) := by
    rcases hc with q | q <;> rw [q] <;> assumption
  rw [ht s hs]
  unfold mrg
  split
  · rename_i h
    refine ⟨hci, ?_, ?_⟩
    · have e1 : (atD f.Slots (min (atD t a) (atD t b))).Size = (atD f.Slots a).Size := by
        rcases hc with q | q <;> rw [q]
        · exact a3
        · rw [b3, hz]
      have e2 : (atD f.Slots (atD t s)).Size = (atD f.Slots a).Size := by
        rcases h with q | q <;> rw [q]
        · exact a3
        · rw [b3, hz]
      rw [e1, ← e2, s3]
    · rw [ht _ hci, hcc]
      unfold mrg
      split
      · rfl
      · rfl
  · rename_i h
    refine ⟨⟨s1, s2⟩, s3, ?_⟩
    rw [ht _ ⟨s1, s2⟩, s4]
    unfold mrg
    rw [if_neg h]
section
variable {n i par : Int} {f : AFunc} {g : List (List Int)}
end
end Go.Proofs.Ytechhjednmnmpaa.Q
