/- Contracts that were proved on worlds, as contracts on values: bitset. -/
import Derived.Test.YtpjmpkgllnomaaaDoorLiftA
import Derived.Test.YtpjmpkgllnomaaaDoorSets
namespace Go.Proofs.YtpjmpkgllnomaaaDoor
open Go.RowKit

theorem tab_of {w : World} {gs : List Value} {η : Nat → Value} {F : Nat → Prop} {hp : Hp} (h : HRep ⟨w, gs, F⟩ w η F hp) (hd : true = true) : Tab w := (h.amb hd).1
/-- A function that yields a row of ints. -/
theorem lift_row {f : FuncId} {args : List WV} {l : List Int} (hf : ∃ fn, Tryd.prog.funcs[f]? = some fn ∧ (fn.name == "runtime.NumGoroutine") = false ∧ fn.body.isNone = false)
    (h : ∀ (w : World) (F : Nat → Prop) (vs : Array Value), (true = true → Tab w) → (∀ g, F g → g < w.heap.size) → vs.size = args.length → (∀ (i : Nat) (x : WV) (v : Value), args[i]? = some x → vs[i]? = some v → WRep w F (fun _ => undef) (lentHp []) x v) → Calls Tryd.prog f vs w fun e w' => (∃ r, e = .returned r ∧ Row w' w.heap.size r l) ∧ Below w.heap.size w w')
    (hc : ∀ x ∈ args, ∃ t, x = .c (.v t)) : FCalls Tryd.prog f [] args (.w (.c (.v (.tree (l.map iRow))))) [] [] := by
  refine ⟨hf, ⟨rfl, LkOk.nil, LkOk.nil, NoDead.of rfl, fun _ h => by cases h⟩, fun w gs η F vs hg hH hvs hargs => ?_⟩
  refine (h w F vs (tab_of hH) hH.Flt hvs fun i x v hx hv => ?_).mono fun e w' ⟨⟨r, h1, h2⟩, h3⟩ => ⟨r, η, fun g => F g ∨ (w.heap.size ≤ g ∧ g < w'.heap.size), h1, hH.bare hg h3 fun g hg => hg, ?_⟩
  · obtain ⟨t, rfl⟩ := hc x (List.mem_of_getElem? hx)
    exact hargs i _ v hx hv
  · exact h2.holds.treeI fun g hg => .inr hg
theorem lift_val {f : FuncId} {args : List WV} {t : TV} (hf : ∃ fn, Tryd.prog.funcs[f]? = some fn ∧ (fn.name == "runtime.NumGoroutine") = false ∧ fn.body.isNone = false)
    (h : ∀ (w : World) (F : Nat → Prop) (vs : Array Value), (true = true → Tab w) → (∀ g, F g → g < w.heap.size) → vs.size = args.length → (∀ (i : Nat) (x : WV) (v : Value), args[i]? = some x → vs[i]? = some v → WRep w F (fun _ => undef) (lentHp []) x v) → Calls Tryd.prog f vs w fun e w' => (∃ r, e = .returned r ∧ ∀ F : Nat → Prop, Tr w' F t r) ∧ Below w.heap.size w w')
    (hc : ∀ x ∈ args, ∃ t, x = .c (.v t)) : FCalls Tryd.prog f [] args (.w (.c (.v t))) [] [] := by
  refine ⟨hf, ⟨rfl, LkOk.nil, LkOk.nil, NoDead.of rfl, fun _ h => by cases h⟩, fun w gs η F vs hg hH hvs hargs => ?_⟩
  refine (h w F vs (tab_of hH) hH.Flt hvs fun i x v hx hv => ?_).mono fun e w' ⟨⟨r, h1, h2⟩, h3⟩ => ⟨r, η, F, h1, hH.bare hg h3 fun g hg => .inl hg, h2 F⟩
  obtain ⟨t, rfl⟩ := hc x (List.mem_of_getElem? hx)
  exact hargs i _ v hx hv
theorem args2 {w : World} {F : Nat → Prop} {x y : TV} {vs : Array Value} (hs : vs.size = 2) (h : ∀ (i : Nat) (z : WV) (v : Value), [WV.c (.v x), .c (.v y)][i]? = some z → vs[i]? = some v → WRep w F (fun _ => undef) (lentHp []) z v) : ∃ u v, vs = #[u, v] ∧ Tr w F x u ∧ Tr w F y v := by
  obtain ⟨l⟩ := vs
  match l, hs with
  | [u, v], _ => exact ⟨u, v, rfl, h 0 _ u rfl rfl, h 1 _ v rfl rfl⟩
theorem args1 {w : World} {F : Nat → Prop} {x : TV} {vs : Array Value} (hs : vs.size = 1) (h : ∀ (i : Nat) (z : WV) (v : Value), [WV.c (.v x)][i]? = some z → vs[i]? = some v → WRep w F (fun _ => undef) (lentHp []) z v) : ∃ u, vs = #[u] ∧ Tr w F x u := by
  obtain ⟨l⟩ := vs
  match l, hs with
  | [u], _ => exact ⟨u, rfl, h 0 _ u rfl rfl⟩
theorem bsAdd (l : List Int) (n : Int) : FCalls Tryd.prog 30 [] [setA l, intA n] (setR (listP (putI (memP l) n true))) [] [] :=
  lift_row ⟨_, Tryd.func30, rfl, rfl⟩ (fun w F vs hT hF hs ha => by
    obtain ⟨u, v, rfl, h1, h2⟩ := args2 hs ha
    cases h2
    exact Add_any u l n w (h1.holdsI hF) (hT rfl)) (by simp)
theorem bsHas (l : List Int) (n : Int) : FCalls Tryd.prog 28 [] [setA l, intA n] (bS (hasI (memP l) n)) [] [] :=
  lift_val ⟨_, Tryd.func28, rfl, rfl⟩ (fun w F vs hT hF hs ha => by
    obtain ⟨u, v, rfl, h1, h2⟩ := args2 hs ha
    cases h2
    exact (Has_any u l n w (h1.holdsI hF)).mono fun e w' ⟨e1, e2⟩ => ⟨⟨_, e1, fun _ => .bool _⟩, e2⟩) (by simp)
theorem bsCheck (l : List Int) : FCalls Tryd.prog 27 [] [setA l] (bS (checkL l)) [] [] :=
  lift_val ⟨_, Tryd.func27, rfl, rfl⟩ (fun w F vs hT hF hs ha => by
    obtain ⟨u, rfl, h1⟩ := args1 hs ha
    exact (Check_any u l _ w (h1.holdsI hF)).mono fun e w' ⟨e1, e2⟩ => ⟨⟨_, e1, fun _ => .bool _⟩, e2 ▸ Below.refl _ _⟩) (by simp)
end Go.Proofs.YtpjmpkgllnomaaaDoor
