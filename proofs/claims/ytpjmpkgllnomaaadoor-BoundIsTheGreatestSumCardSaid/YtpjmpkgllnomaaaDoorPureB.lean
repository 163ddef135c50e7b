/- More of the language of lifted functions. No program in sight. -/
import Derived.Test.YtpjmpkgllnomaaaDoorPure
namespace Go.Proofs.YtpjmpkgllnomaaaDoor.Q
/-- Two ways, of which it is not known which is gone (the first one only if p): what comes out of both. -/
@[irreducible] def M.both {α : Type} (p : Prop) (m m' : M α) : M α := fun r => (p → m r) ∧ m' r
theorem M.both_iff {α : Type} {p : Prop} {m m' : M α} {r : α} : M.both p m m' r ↔ (p → m r) ∧ m' r := by unfold M.both; exact Iff.rfl
theorem WP.both {α : Type} {p : Prop} {m m' : M α} {Q : α → Prop} (c : α) (h : p → WP m (· = c)) (h' : WP m' (· = c)) (hq : Q c) : WP (M.both p m m') Q := by
  obtain ⟨r', h2, rfl⟩ := h'
  refine ⟨_, M.both_iff.2 ⟨fun hp => ?_, h2⟩, hq⟩
  obtain ⟨r, h1, rfl⟩ := h hp
  exact h1
/-- Cells laid over a list from a place on. -/
def putL {α : Type} (l : List α) (o : Int) (vs : List α) : List α := l.take o.toNat ++ vs ++ l.drop (o.toNat + vs.length)
end Go.Proofs.YtpjmpkgllnomaaaDoor.Q
