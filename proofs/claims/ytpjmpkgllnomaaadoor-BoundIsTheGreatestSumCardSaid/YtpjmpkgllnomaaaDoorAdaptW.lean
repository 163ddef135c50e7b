/- The package bitset: Within and Meet, beside the lifted texts. -/
import Derived.Test.YtpjmpkgllnomaaaDoorAdapt
import Derived.Test.YtpjmpkgllnomaaaDoorSetWithin
set_option linter.unusedSimpArgs false
set_option linter.unusedVariables false
namespace Go.Proofs.YtpjmpkgllnomaaaDoor
open Go.RowKit
theorem bsWithin (l m : List Int) : FCalls Tryd.prog 29 [] [setA l, setA m] (bS (l.all (hasI (memP m)))) [] [] :=
  lift_val ⟨_, Tryd.func29, rfl, rfl⟩ (fun w F vs hT hF hs ha => by
    obtain ⟨u, v, rfl, h1, h2⟩ := args2 hs ha
    exact (Within_any u v l m w (h1.holdsI hF) (h2.holdsI hF)).mono fun e w' ⟨e1, e2⟩ => ⟨⟨_, e1, fun _ => .bool _⟩, e2⟩) (by simp)
namespace Q
theorem bitset_Within_ok (a1 b1 : List Int) : ∀ r : Bool, bitset_Within a1 b1 r → FCalls Tryd.prog 29 [] [.c (.v (.tree (a1.map iRow))), .c (.v (.tree (b1.map iRow)))] (.w (.c (.v (.bool r)))) [] [] := by
  intro r hr
  have e : (a1.all fun x => in512 x && decide (x ∈ b1)) = a1.all (hasI (memP b1)) := by
    congr 1
    funext x
    rw [hasI_memP]
  rw [M.ret_iff.1 hr, e]
  exact bsWithin a1 b1
end Q
end Go.Proofs.YtpjmpkgllnomaaaDoor
