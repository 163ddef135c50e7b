/- The package bitset: Within and Meet, beside the lifted texts. -/
import Derived.Test.YtmefipdgohflmaaDoorAdapt
import Derived.Test.YtmefipdgohflmaaDoorSetWithin
set_option linter.unusedSimpArgs false
set_option linter.unusedVariables false
namespace Go.Proofs.YtmefipdgohflmaaDoor
open Go.RowKit
theorem bsMeet (l m : List Int) : FCalls Tryd.prog 61 [] [setA l, setA m] (setR (listP (fun k => memP l k && memP m k))) [] [] :=
  lift_row ⟨_, Tryd.func61, rfl, rfl⟩ (fun w F vs hT hF hs ha => by
    obtain ⟨u, v, rfl, h1, h2⟩ := args2 hs ha
    exact Meet_any u v l m w (h1.holdsI hF) (h2.holdsI hF) (hT rfl)) (by simp)
theorem bsWithin (l m : List Int) : FCalls Tryd.prog 53 [] [setA l, setA m] (bS (l.all (hasI (memP m)))) [] [] :=
  lift_val ⟨_, Tryd.func53, rfl, rfl⟩ (fun w F vs hT hF hs ha => by
    obtain ⟨u, v, rfl, h1, h2⟩ := args2 hs ha
    exact (Within_any u v l m w (h1.holdsI hF) (h2.holdsI hF)).mono fun e w' ⟨e1, e2⟩ => ⟨⟨_, e1, fun _ => .bool _⟩, e2⟩) (by simp)
namespace Q
theorem bitset_Meet_ok (a1 b1 : List Int) : ∀ r : List Int, bitset_Meet a1 b1 r → FCalls Tryd.prog 61 [] [.c (.v (.tree (a1.map iRow))), .c (.v (.tree (b1.map iRow)))] (.w (.c (.v (.tree (r.map iRow))))) [] [] := by
  intro r hr
  rw [M.ret_iff.1 hr, ← listP_setOf (p := fun k => memP a1 k && memP b1 k) fun k hk => by simp [memP, hk]]
  exact bsMeet a1 b1
theorem bitset_Within_ok (a1 b1 : List Int) : ∀ r : Bool, bitset_Within a1 b1 r → FCalls Tryd.prog 53 [] [.c (.v (.tree (a1.map iRow))), .c (.v (.tree (b1.map iRow)))] (.w (.c (.v (.bool r)))) [] [] := by
  intro r hr
  have e : (a1.all fun x => in512 x && decide (x ∈ b1)) = a1.all (hasI (memP b1)) := by
    congr 1
    funext x
    rw [hasI_memP]
  rw [M.ret_iff.1 hr, e]
  exact bsWithin a1 b1
end Q
end Go.Proofs.YtmefipdgohflmaaDoor
