/- The reference of sets: contracts on values. -/
import Derived.Test.YtjfkdjlmajfljaaDoorLift
import Derived.Test.YtjfkdjlmajfljaaDoorSetLaws
import Derived.Test.YtjfkdjlmajfljaaDoorSame
namespace Go.Proofs.YtjfkdjlmajfljaaDoor
open Go.RowKit
theorem rfAdd (l : List Int) (n : Int) (h : l.length ≤ 100000) : FCalls Tryd.prog 43 [] [setA l, intA n] (setR (addL l n)) [] [] :=
  lift_row ⟨_, Tryd.func43, rfl, rfl⟩ (fun w F vs _ hF hs ha => by
    obtain ⟨u, v, rfl, h1, h2⟩ := args2 hs ha
    cases h2
    exact rAdd_any u l n w (h1.holdsI hF) h) (by simp)
theorem rfRemove (l : List Int) (n : Int) (h : l.length ≤ 100000) : FCalls Tryd.prog 50 [] [setA l, intA n] (setR (remL l n)) [] [] :=
  lift_row ⟨_, Tryd.func50, rfl, rfl⟩ (fun w F vs _ hF hs ha => by
    obtain ⟨u, v, rfl, h1, h2⟩ := args2 hs ha
    cases h2
    exact rRemove_any u l n w (h1.holdsI hF) h) (by simp)
theorem rfMeet (l m : List Int) (h : l.length ≤ 100000) : FCalls Tryd.prog 28 [] [setA l, setA m] (setR (meetL l m)) [] [] :=
  lift_row ⟨_, Tryd.func28, rfl, rfl⟩ (fun w F vs _ hF hs ha => by
    obtain ⟨u, v, rfl, h1, h2⟩ := args2 hs ha
    exact rMeet_any u v l m w (h1.holdsI hF) (h2.holdsI hF) h) (by simp)
theorem rfMinus (l m : List Int) (h : l.length ≤ 100000) : FCalls Tryd.prog 52 [] [setA l, setA m] (setR (minusL l m)) [] [] :=
  lift_row ⟨_, Tryd.func52, rfl, rfl⟩ (fun w F vs _ hF hs ha => by
    obtain ⟨u, v, rfl, h1, h2⟩ := args2 hs ha
    exact rMinus_any u v l m w (h1.holdsI hF) (h2.holdsI hF) h) (by simp)
theorem rfWithin (l m : List Int) (h : l.length ≤ 100000) : FCalls Tryd.prog 27 [] [setA l, setA m] (bS (withinL l m)) [] [] :=
  lift_val ⟨_, Tryd.func27, rfl, rfl⟩ (fun w F vs _ hF hs ha => by
    obtain ⟨u, v, rfl, h1, h2⟩ := args2 hs ha
    exact (rWithin_any u v l m w (h1.holdsI hF) (h2.holdsI hF) h).mono fun e w' ⟨e1, e2⟩ => ⟨⟨_, e1, fun _ => .bool _⟩, e2⟩) (by simp)
theorem rfHas (l : List Int) (n : Int) : FCalls Tryd.prog 32 [] [setA l, intA n] (bS (hasL l n)) [] [] :=
  lift_val ⟨_, Tryd.func32, rfl, rfl⟩ (fun w F vs _ hF hs ha => by
    obtain ⟨u, v, rfl, h1, h2⟩ := args2 hs ha
    cases h2
    exact (rHas_any u l n _ w (h1.holdsI hF)).mono fun e w' ⟨e1, e2⟩ => ⟨⟨_, e1, fun _ => .bool _⟩, e2 ▸ Below.refl _ _⟩) (by simp)
theorem rfCheck (l : List Int) : FCalls Tryd.prog 54 [] [setA l] (bS (checkL l)) [] [] :=
  lift_val ⟨_, Tryd.func54, rfl, rfl⟩ (fun w F vs _ hF hs ha => by
    obtain ⟨u, rfl, h1⟩ := args1 hs ha
    exact (rCheck_any u l _ w (h1.holdsI hF) (fun _ h => h)).mono fun e w' ⟨e1, e2⟩ => ⟨⟨_, e1, fun _ => .bool _⟩, e2⟩) (by simp)
theorem rfSame (l m : List Int) : FCalls Tryd.prog 23 [] [setA l, setA m] (bS (decide (l = m))) [] [] :=
  lift_val ⟨_, Tryd.func23, rfl, rfl⟩ (fun w F vs _ hF hs ha => by
    obtain ⟨u, v, rfl, h1, h2⟩ := args2 hs ha
    exact (Same_any u v l m _ _ w (h1.holdsI hF) (h2.holdsI hF)).mono fun e w' ⟨e1, n, e2⟩ => ⟨⟨_, e1, fun _ => .bool _⟩, e2 ▸ below_drewN2 (Below.refl _ _) n⟩) (by simp)
end Go.Proofs.YtjfkdjlmajfljaaDoor
