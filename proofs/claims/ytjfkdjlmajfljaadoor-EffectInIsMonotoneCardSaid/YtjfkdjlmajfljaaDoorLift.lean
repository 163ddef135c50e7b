/- Contracts that were proved on worlds, as contracts on values. -/
import Derived.Test.YtjfkdjlmajfljaaDoorNext
import Derived.Test.YtjfkdjlmajfljaaDoorBitset
namespace Go.Proofs.YtjfkdjlmajfljaaDoor
open Go.RowKit

theorem HRep.bare {w w' : World} {gs : List Nat} {η : Nat → Value} {F F' : Nat → Prop} (h : HRep ⟨w, gs, F⟩ w η F (lentHp [])) (hg : gs.length = 0) (hb : Below w.heap.size w w') (h1 : ∀ g, F' g → F g ∨ (w.heap.size ≤ g ∧ g < w'.heap.size)) : HRep ⟨w, gs, F⟩ w' η F' (afterHp [] []) := by
  have hgs : gs = [] := List.length_eq_zero_iff.1 hg
  subst hgs
  have hn : ∀ j, afterHp [] [] j = none := fun j => rfl
  have hs := hb.size
  refine ⟨fun b k hk => ?_, fun b b' k k' g hk => ?_, fun b k g hk => ?_, fun b k g hk => ?_, fun g hF => ?_, fun b k g hk => ?_, fun j g hj => by simp at hj, ⟨hb.os, hb.tape, hb.output, hb.size, fun k hk _ => hb.block k hk⟩, fun g hF => ?_, h.amb⟩
  · cases hk
  · cases hk
  · cases hk
  · cases hk
  · rcases h1 g hF with h2 | h2
    · have := h.Flt g h2; omega
    · exact h2.2
  · cases hk
  · rcases h1 g hF with h2 | h2
    · exact .inl h2
    · exact .inr h2.1
theorem tab_of {w : World} {gs : List Nat} {η : Nat → Value} {F : Nat → Prop} {hp : Hp} (h : HRep ⟨w, gs, F⟩ w η F hp) (hd : true = true) : Tab w := (h.amb hd).1
/-- A closed row of ints, as the world holds it. -/
theorem Tr.holdsI {w : World} {F : Nat → Prop} {l : List Int} {v : Value} (h : Tr w F (.tree (l.map iRow)) v) (hF : ∀ g, F g → g < w.heap.size) : Holds w (fun b => b < w.heap.size) 1 v l.length (l.map (Value.int .i64)) := by
  generalize hr : l.map iRow = rows at h
  cases h with
  | empty a c hm =>
    have : l = [] := by simpa using hr
    subst this
    exact ⟨a, c, rfl, Nat.zero_le _, hm, rfl, fun h => absurd h (by simp)⟩
  | tree _ g o sz c cv hc hm hsz hFg hcell htr =>
    subst hr
    rw [List.length_map] at hc
    refine ⟨some ⟨g, o, none⟩, c, by rw [List.length_map], hc, hm, by simp, fun hpos => ⟨g, o, rfl, hF g hFg, fun j u hu => ?_⟩⟩
    rw [List.getElem?_map, Option.map_eq_some_iff] at hu
    obtain ⟨n, hn, rfl⟩ := hu
    have h1 : (l.map iRow)[j]? = some [.int .i64 n] := by rw [List.getElem?_map, hn]; rfl
    have hs1 : sz = 1 := (hsz _ (List.mem_of_getElem? h1)).symm
    have h2 := hcell j 0 _ _ h1 rfl
    have h3 := htr j 0 _ _ h1 rfl
    have h4 : cv j 0 = .int .i64 n := Tr.int_inv h3
    rw [hs1, h4] at h2
    simpa using h2
theorem Holds.treeI {w : World} {F : Nat → Prop} {S : Nat → Prop} {l : List Int} {v : Value} (h : Holds w S 1 v l.length (l.map (Value.int .i64))) (hF : ∀ g, S g → F g) : Tr w F (.tree (l.map iRow)) v := by
  obtain ⟨A, c, rfl, hc, hm, hl, hcell⟩ := h
  rcases Nat.eq_zero_or_pos l.length with h0 | h0
  · have : l = [] := List.length_eq_zero_iff.1 h0
    subst this
    exact .empty A c hm
  · obtain ⟨b, o, rfl, hS, hcell⟩ := hcell h0
    have := Tr.tree (w := w) (F := F) (l.map iRow) b o 1 c (fun i _ => .int .i64 (l[i]?.getD 0)) (by rw [List.length_map]; exact hc) hm (fun row hrow => by
      obtain ⟨n, _, rfl⟩ := List.mem_map.1 hrow; rfl) (hF b hS) (fun i j row x hi hj => ?_) (fun i j row x hi hj => ?_)
    · rw [List.length_map] at this; exact this
    · rw [List.getElem?_map, Option.map_eq_some_iff] at hi
      obtain ⟨n, hn, rfl⟩ := hi
      have hj0 : j = 0 := by
        have := (List.getElem?_eq_some_iff.1 hj).1
        simp [iRow] at this; omega
      subst hj0
      have := hcell i (.int .i64 n) (by rw [List.getElem?_map, hn]; rfl)
      rw [hn]; simpa using this
    · rw [List.getElem?_map, Option.map_eq_some_iff] at hi
      obtain ⟨n, hn, rfl⟩ := hi
      have hj0 : j = 0 := by
        have := (List.getElem?_eq_some_iff.1 hj).1
        simp [iRow] at this; omega
      subst hj0
      simp only [iRow, List.getElem?_cons_zero, Option.some.injEq] at hj
      subst hj
      rw [hn]
      exact .int _ _

theorem Holds.treeB {w : World} {F : Nat → Prop} {S : Nat → Prop} {l : List Int} {v : Value} (h : Holds w S 1 v l.length (l.map (Value.int .u8))) (hF : ∀ g, S g → F g) : Tr w F (.tree (l.map bRow)) v := by
  obtain ⟨A, c, rfl, hc, hm, hl, hcell⟩ := h
  rcases Nat.eq_zero_or_pos l.length with h0 | h0
  · have : l = [] := List.length_eq_zero_iff.1 h0
    subst this
    exact .empty A c hm
  · obtain ⟨b, o, rfl, hS, hcell⟩ := hcell h0
    have := Tr.tree (w := w) (F := F) (l.map bRow) b o 1 c (fun i _ => .int .u8 (l[i]?.getD 0)) (by rw [List.length_map]; exact hc) hm (fun row hrow => by
      obtain ⟨n, _, rfl⟩ := List.mem_map.1 hrow; rfl) (hF b hS) (fun i j row x hi hj => ?_) (fun i j row x hi hj => ?_)
    · rw [List.length_map] at this; exact this
    · rw [List.getElem?_map, Option.map_eq_some_iff] at hi
      obtain ⟨n, hn, rfl⟩ := hi
      have hj0 : j = 0 := by
        have := (List.getElem?_eq_some_iff.1 hj).1
        simp [bRow] at this; omega
      subst hj0
      have := hcell i (.int .u8 n) (by rw [List.getElem?_map, hn]; rfl)
      rw [hn]; simpa using this
    · rw [List.getElem?_map, Option.map_eq_some_iff] at hi
      obtain ⟨n, hn, rfl⟩ := hi
      have hj0 : j = 0 := by
        have := (List.getElem?_eq_some_iff.1 hj).1
        simp [bRow] at this; omega
      subst hj0
      simp only [bRow, List.getElem?_cons_zero, Option.some.injEq] at hj
      subst hj
      rw [hn]
      exact .int _ _
/-- The start: a world as it is, nothing lent; all that is there does not change. -/
theorem HRep.start (w : World) (η : Nat → Value) (hT : true = true → Tab w) : HRep ⟨w, [], fun b => b < w.heap.size⟩ w η (fun b => b < w.heap.size) (lentHp []) := by
  refine ⟨fun b k hk => ?_, fun b b' k k' g hk => ?_, fun b k g hk => ?_, fun b k g hk => ?_, fun g hF => hF, fun b k g hk => ?_, fun j g hj => by simp at hj, ⟨rfl, rfl, rfl, Nat.le_refl _, fun _ _ _ => rfl⟩, fun g hF => .inl hF, fun hd => ⟨hT hd, by simp⟩⟩ <;> cases hk
/-- From the contract of a law to what is asked for. -/
theorem law_close {f : FuncId} {args : List WV} {vs : Array Value} {w : World} {b : Bool} (hf : FCalls Tryd.prog f [] args (bS b) [] []) (hT : true = true → Tab w) (hs : vs.size = args.length) (ha : ∀ (i : Nat) (x : WV) (v : Value), args[i]? = some x → vs[i]? = some v → WRep w (fun b => b < w.heap.size) (fun _ => undef) (lentHp []) x v) :
    Calls Tryd.prog f vs w fun e w' => e = .returned (.bool b) ∧ Below w.heap.size w w' := by
  obtain ⟨_, _, h⟩ := hf
  refine (h w [] (fun _ => undef) _ vs rfl (HRep.start w _ hT) hs ha).mono fun e w' ⟨v, η', F', h1, h2, h3⟩ => ⟨?_, ?_⟩
  · rw [h1, Tr.bool_inv h3]
  · exact ⟨h2.keep.os, h2.keep.tape, h2.keep.output, h2.keep.size, fun k hk => h2.keep.block k hk (by simp)⟩
theorem argsC {w : World} {F : Nat → Prop} {cs : List Int} {u : Value} {S : Nat → Prop} (hu : Holds w S 1 u cs.length (cs.map (Value.int .u8))) (hF : ∀ g, S g → F g) : ∀ (i : Nat) (x : WV) (v : Value), [WV.c (.v (.tree (cs.map bRow)))][i]? = some x → #[u][i]? = some v → WRep w F (fun _ => undef) (lentHp []) x v := by
  intro i x v hx hv
  match i with
  | 0 =>
    simp only [List.getElem?_cons_zero, Option.some.injEq] at hx
    subst hx
    have : u = v := by simpa using hv
    subst this
    exact hu.treeB hF
  | i + 1 => simp at hx

/-- A function that yields a row of ints. -/
theorem lift_row {f : FuncId} {args : List WV} {l : List Int} (hf : ∃ fn, Tryd.prog.funcs[f]? = some fn ∧ (fn.name == "runtime.NumGoroutine") = false ∧ fn.body.isNone = false)
    (h : ∀ (w : World) (F : Nat → Prop) (vs : Array Value), (true = true → Tab w) → (∀ g, F g → g < w.heap.size) → vs.size = args.length → (∀ (i : Nat) (x : WV) (v : Value), args[i]? = some x → vs[i]? = some v → WRep w F (fun _ => undef) (lentHp []) x v) → Calls Tryd.prog f vs w fun e w' => (∃ r, e = .returned r ∧ Row w' w.heap.size r l) ∧ Below w.heap.size w w')
    (hc : ∀ x ∈ args, ∃ t, x = .c (.v t)) : FCalls Tryd.prog f [] args (.w (.c (.v (.tree (l.map iRow))))) [] [] := by
  refine ⟨hf, rfl, fun w gs η F vs hg hH hvs hargs => ?_⟩
  refine (h w F vs (tab_of hH) hH.Flt hvs fun i x v hx hv => ?_).mono fun e w' ⟨⟨r, h1, h2⟩, h3⟩ => ⟨r, η, fun g => F g ∨ (w.heap.size ≤ g ∧ g < w'.heap.size), h1, hH.bare hg h3 fun g hg => hg, ?_⟩
  · obtain ⟨t, rfl⟩ := hc x (List.mem_of_getElem? hx)
    exact hargs i _ v hx hv
  · exact h2.holds.treeI fun g hg => .inr hg
theorem lift_val {f : FuncId} {args : List WV} {t : TV} (hf : ∃ fn, Tryd.prog.funcs[f]? = some fn ∧ (fn.name == "runtime.NumGoroutine") = false ∧ fn.body.isNone = false)
    (h : ∀ (w : World) (F : Nat → Prop) (vs : Array Value), (true = true → Tab w) → (∀ g, F g → g < w.heap.size) → vs.size = args.length → (∀ (i : Nat) (x : WV) (v : Value), args[i]? = some x → vs[i]? = some v → WRep w F (fun _ => undef) (lentHp []) x v) → Calls Tryd.prog f vs w fun e w' => (∃ r, e = .returned r ∧ ∀ F : Nat → Prop, Tr w' F t r) ∧ Below w.heap.size w w')
    (hc : ∀ x ∈ args, ∃ t, x = .c (.v t)) : FCalls Tryd.prog f [] args (.w (.c (.v t))) [] [] := by
  refine ⟨hf, rfl, fun w gs η F vs hg hH hvs hargs => ?_⟩
  refine (h w F vs (tab_of hH) hH.Flt hvs fun i x v hx hv => ?_).mono fun e w' ⟨⟨r, h1, h2⟩, h3⟩ => ⟨r, η, F, h1, hH.bare hg h3 fun g hg => .inl hg, h2 F⟩
  obtain ⟨t, rfl⟩ := hc x (List.mem_of_getElem? hx)
  exact hargs i _ v hx hv
theorem args2 {w : World} {F : Nat → Prop} {x y : TV} {vs : Array Value} (hs : vs.size = 2) (h : ∀ (i : Nat) (z : WV) (v : Value), [WV.c (.v x), .c (.v y)][i]? = some z → vs[i]? = some v → WRep w F (fun _ => undef) (lentHp []) z v) : ∃ u v, vs = #[u, v] ∧ Tr w F x u ∧ Tr w F y v := by
  obtain ⟨l⟩ := vs
  match l, hs with
  | [u, v], _ => exact ⟨u, v, rfl, h 0 _ u rfl rfl, h 1 _ v rfl rfl⟩
theorem args1 {w : World} {F : Nat → Prop} {x : TV} {vs : Array Value} (hs : vs.size = 1) (h : ∀ (i : Nat) (z : WV) (v : Value), [WV.c (.v x)][i]? = some z → vs[i]? = some v → WRep w F (fun _ => undef) (lentHp []) z v) : ∃ u, vs = #[u] ∧ Tr w F x u := by
  obtain ⟨l⟩ := vs
  match l, hs with
  | [u], _ => exact ⟨u, rfl, h 0 _ u rfl rfl⟩
theorem bsAdd (l : List Int) (n : Int) : FCalls Tryd.prog 42 [] [setA l, intA n] (setR (listP (putI (memP l) n true))) [] [] :=
  lift_row ⟨_, Tryd.func42, rfl, rfl⟩ (fun w F vs hT hF hs ha => by
    obtain ⟨u, v, rfl, h1, h2⟩ := args2 hs ha
    cases h2
    exact Add_any u l n w (h1.holdsI hF) (hT rfl)) (by simp)
theorem bsRemove (l : List Int) (n : Int) : FCalls Tryd.prog 45 [] [setA l, intA n] (setR (listP (putI (memP l) n false))) [] [] :=
  lift_row ⟨_, Tryd.func45, rfl, rfl⟩ (fun w F vs hT hF hs ha => by
    obtain ⟨u, v, rfl, h1, h2⟩ := args2 hs ha
    cases h2
    exact Remove_any u l n w (h1.holdsI hF) (hT rfl)) (by simp)
theorem bsOf (l : List Int) : FCalls Tryd.prog 47 [] [setA l] (setR (listP (memP l))) [] [] :=
  lift_row ⟨_, Tryd.func47, rfl, rfl⟩ (fun w F vs hT hF hs ha => by
    obtain ⟨u, rfl, h1⟩ := args1 hs ha
    exact Of_any u l w (h1.holdsI hF) (hT rfl)) (by simp)
theorem bsHas (l : List Int) (n : Int) : FCalls Tryd.prog 55 [] [setA l, intA n] (bS (hasI (memP l) n)) [] [] :=
  lift_val ⟨_, Tryd.func55, rfl, rfl⟩ (fun w F vs hT hF hs ha => by
    obtain ⟨u, v, rfl, h1, h2⟩ := args2 hs ha
    cases h2
    exact (Has_any u l n w (h1.holdsI hF)).mono fun e w' ⟨e1, e2⟩ => ⟨⟨_, e1, fun _ => .bool _⟩, e2⟩) (by simp)
theorem bsUnion (l m : List Int) : FCalls Tryd.prog 46 [] [setA l, setA m] (setR (listP (fun k => memP l k || memP m k))) [] [] :=
  lift_row ⟨_, Tryd.func46, rfl, rfl⟩ (fun w F vs hT hF hs ha => by
    obtain ⟨u, v, rfl, h1, h2⟩ := args2 hs ha
    exact Union_any u v l m w (h1.holdsI hF) (h2.holdsI hF) (hT rfl)) (by simp)
theorem bsCheck (l : List Int) : FCalls Tryd.prog 53 [] [setA l] (bS (checkL l)) [] [] :=
  lift_val ⟨_, Tryd.func53, rfl, rfl⟩ (fun w F vs hT hF hs ha => by
    obtain ⟨u, rfl, h1⟩ := args1 hs ha
    exact (Check_any u l _ w (h1.holdsI hF)).mono fun e w' ⟨e1, e2⟩ => ⟨⟨_, e1, fun _ => .bool _⟩, e2 ▸ Below.refl _ _⟩) (by simp)
end Go.Proofs.YtjfkdjlmajfljaaDoor
