/- Closed rows as worlds hold them; the closing of a law. -/
import Derived.Test.YtpjmpkgllnomaaaDoorMc
import Derived.Test.YtpjmpkgllnomaaaDoorBase
namespace Go.Proofs.YtpjmpkgllnomaaaDoor
open Go.RowKit

theorem HRep.bare {w w' : World} {gs : List Value} {η : Nat → Value} {F F' : Nat → Prop} (h : HRep ⟨w, gs, F⟩ w η F (lentHp [])) (hg : gs.length = 0) (hb : Below w.heap.size w w') (h1 : ∀ g, F' g → F g ∨ (w.heap.size ≤ g ∧ g < w'.heap.size)) : HRep ⟨w, gs, F⟩ w' η F' (afterHp [] []) := by
  have hgs : gs = [] := List.length_eq_zero_iff.1 hg
  subst hgs
  have hn : ∀ j, afterHp [] [] j = none := fun j => rfl
  have hs := hb.size
  refine ⟨fun b k hk => ?_, fun b b' k k' g hk => ?_, fun b k g hk => ?_, fun b k g hk => ?_, fun g hF => ?_, fun b k g hk => ?_, fun j v k hj _ => by simp at hj, ⟨hb.os, hb.tape, hb.output, hb.size, fun k hk _ => hb.block k hk⟩, fun g hF => ?_, h.amb⟩
  · cases hk
  · cases hk
  · cases hk
  · cases hk
  · rcases h1 g hF with h2 | h2
    · have := h.Flt g h2; omega
    · exact h2.2
  · cases hk
  · rcases h1 g hF with h2 | h2
    · exact .inl h2
    · exact .inr (.inl h2.1)
/-- A closed row of ints, as the world holds it. -/
theorem Tr.holdsI {w : World} {F : Nat → Prop} {l : List Int} {v : Value} (h : Tr w F (.tree (l.map iRow)) v) (hF : ∀ g, F g → g < w.heap.size) : Holds w (fun b => b < w.heap.size) 1 v l.length (l.map (Value.int .i64)) := by
  generalize hr : l.map iRow = rows at h
  cases h with
  | empty a c hm =>
    have : l = [] := by simpa using hr
    subst this
    exact ⟨a, c, rfl, Nat.zero_le _, hm, rfl, fun h => absurd h (by simp)⟩
  | tree _ g o sz c cv hc hm hsz hFg hcell htr =>
    subst hr
    rw [List.length_map] at hc
    refine ⟨some ⟨g, o, none⟩, c, by rw [List.length_map], hc, hm, by simp, fun hpos => ⟨g, o, rfl, hF g hFg, fun j u hu => ?_⟩⟩
    rw [List.getElem?_map, Option.map_eq_some_iff] at hu
    obtain ⟨n, hn, rfl⟩ := hu
    have h1 : (l.map iRow)[j]? = some [.int .i64 n] := by rw [List.getElem?_map, hn]; rfl
    have hs1 : sz = 1 := (hsz _ (List.mem_of_getElem? h1)).symm
    have h2 := hcell j 0 _ _ h1 rfl
    have h3 := htr j 0 _ _ h1 rfl
    have h4 : cv j 0 = .int .i64 n := Tr.int_inv h3
    rw [hs1, h4] at h2
    simpa using h2
theorem Holds.treeI {w : World} {F : Nat → Prop} {S : Nat → Prop} {l : List Int} {v : Value} (h : Holds w S 1 v l.length (l.map (Value.int .i64))) (hF : ∀ g, S g → F g) : Tr w F (.tree (l.map iRow)) v := by
  obtain ⟨A, c, rfl, hc, hm, hl, hcell⟩ := h
  rcases Nat.eq_zero_or_pos l.length with h0 | h0
  · have : l = [] := List.length_eq_zero_iff.1 h0
    subst this
    exact .empty A c hm
  · obtain ⟨b, o, rfl, hS, hcell⟩ := hcell h0
    have := Tr.tree (w := w) (F := F) (l.map iRow) b o 1 c (fun i _ => .int .i64 (l[i]?.getD 0)) (by rw [List.length_map]; exact hc) hm (fun row hrow => by
      obtain ⟨n, _, rfl⟩ := List.mem_map.1 hrow; rfl) (hF b hS) (fun i j row x hi hj => ?_) (fun i j row x hi hj => ?_)
    · rw [List.length_map] at this; exact this
    · rw [List.getElem?_map, Option.map_eq_some_iff] at hi
      obtain ⟨n, hn, rfl⟩ := hi
      have hj0 : j = 0 := by
        have := (List.getElem?_eq_some_iff.1 hj).1
        simp [iRow] at this; omega
      subst hj0
      have := hcell i (.int .i64 n) (by rw [List.getElem?_map, hn]; rfl)
      rw [hn]; simpa using this
    · rw [List.getElem?_map, Option.map_eq_some_iff] at hi
      obtain ⟨n, hn, rfl⟩ := hi
      have hj0 : j = 0 := by
        have := (List.getElem?_eq_some_iff.1 hj).1
        simp [iRow] at this; omega
      subst hj0
      simp only [iRow, List.getElem?_cons_zero, Option.some.injEq] at hj
      subst hj
      rw [hn]
      exact .int _ _

theorem Holds.treeB {w : World} {F : Nat → Prop} {S : Nat → Prop} {l : List Int} {v : Value} (h : Holds w S 1 v l.length (l.map (Value.int .u8))) (hF : ∀ g, S g → F g) : Tr w F (.tree (l.map bRow)) v := by
  obtain ⟨A, c, rfl, hc, hm, hl, hcell⟩ := h
  rcases Nat.eq_zero_or_pos l.length with h0 | h0
  · have : l = [] := List.length_eq_zero_iff.1 h0
    subst this
    exact .empty A c hm
  · obtain ⟨b, o, rfl, hS, hcell⟩ := hcell h0
    have := Tr.tree (w := w) (F := F) (l.map bRow) b o 1 c (fun i _ => .int .u8 (l[i]?.getD 0)) (by rw [List.length_map]; exact hc) hm (fun row hrow => by
      obtain ⟨n, _, rfl⟩ := List.mem_map.1 hrow; rfl) (hF b hS) (fun i j row x hi hj => ?_) (fun i j row x hi hj => ?_)
    · rw [List.length_map] at this; exact this
    · rw [List.getElem?_map, Option.map_eq_some_iff] at hi
      obtain ⟨n, hn, rfl⟩ := hi
      have hj0 : j = 0 := by
        have := (List.getElem?_eq_some_iff.1 hj).1
        simp [bRow] at this; omega
      subst hj0
      have := hcell i (.int .u8 n) (by rw [List.getElem?_map, hn]; rfl)
      rw [hn]; simpa using this
    · rw [List.getElem?_map, Option.map_eq_some_iff] at hi
      obtain ⟨n, hn, rfl⟩ := hi
      have hj0 : j = 0 := by
        have := (List.getElem?_eq_some_iff.1 hj).1
        simp [bRow] at this; omega
      subst hj0
      simp only [bRow, List.getElem?_cons_zero, Option.some.injEq] at hj
      subst hj
      rw [hn]
      exact .int _ _
/-- The start: a world as it is, nothing lent; all that is there does not change. -/
theorem HRep.start (w : World) (η : Nat → Value) (hT : true = true → TabW w) : HRep ⟨w, [], fun b => b < w.heap.size⟩ w η (fun b => b < w.heap.size) (lentHp []) := by
  refine ⟨fun b k hk => ?_, fun b b' k k' g hk => ?_, fun b k g hk => ?_, fun b k g hk => ?_, fun g hF => hF, fun b k g hk => ?_, fun j v k hj _ => by simp at hj, ⟨rfl, rfl, rfl, Nat.le_refl _, fun _ _ _ => rfl⟩, fun g hF => .inl hF, fun hd => ⟨hT hd, fun g hg => by obtain ⟨v, hv, _⟩ := hg; simp at hv⟩⟩ <;> cases hk
/-- From the contract of a law to what is asked for. -/
theorem law_close {f : FuncId} {args : List WV} {vs : Array Value} {w : World} {b : Bool} (hf : FCalls Tryd.prog f [] args (bS b) [] []) (hT : true = true → TabW w) (hs : vs.size = args.length) (ha : ∀ (i : Nat) (x : WV) (v : Value), args[i]? = some x → vs[i]? = some v → WRep w (fun b => b < w.heap.size) (fun _ => undef) (lentHp []) x v) :
    Calls Tryd.prog f vs w fun e w' => e = .returned (.bool b) ∧ Below w.heap.size w w' := by
  obtain ⟨_, _, h⟩ := hf
  refine (h w [] (fun _ => undef) _ vs rfl (HRep.start w _ hT) hs ha).mono fun e w' ⟨v, η', F', h1, h2, h3⟩ => ⟨?_, ?_⟩
  · rw [h1, Tr.bool_inv h3]
  · exact ⟨h2.keep.os, h2.keep.tape, h2.keep.output, h2.keep.size, fun k hk => h2.keep.block k hk (fun hg => by obtain ⟨v, hv, _⟩ := hg; simp at hv)⟩
theorem argsC {w : World} {F : Nat → Prop} {cs : List Int} {u : Value} {S : Nat → Prop} (hu : Holds w S 1 u cs.length (cs.map (Value.int .u8))) (hF : ∀ g, S g → F g) : ∀ (i : Nat) (x : WV) (v : Value), [WV.c (.v (.tree (cs.map bRow)))][i]? = some x → #[u][i]? = some v → WRep w F (fun _ => undef) (lentHp []) x v := by
  intro i x v hx hv
  match i with
  | 0 =>
    simp only [List.getElem?_cons_zero, Option.some.injEq] at hx
    subst hx
    have : u = v := by simpa using hv
    subst this
    exact hu.treeB hF
  | i + 1 => simp at hx

end Go.Proofs.YtpjmpkgllnomaaaDoor
