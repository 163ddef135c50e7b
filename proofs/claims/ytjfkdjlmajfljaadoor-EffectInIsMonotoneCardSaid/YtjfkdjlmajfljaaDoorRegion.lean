/- A region that draws its order, by an invariant: one obligation for each operation, whatever the order. No program in sight. -/
import Derived.WalkKit
import Derived.RegionTactic
import Derived.BigQuiet
namespace Go.Proofs.YtjfkdjlmajfljaaDoor
open Go.RowKit

/-- p of each operation of a list, with its place. -/
def AllAt (p : Nat → Oper → Prop) : Nat → List Oper → Prop
  | _, [] => True
  | k, o :: r => p k o ∧ AllAt p (k + 1) r
theorem AllAt.at_ {p : Nat → Oper → Prop} : ∀ {l : List Oper} {k : Nat}, AllAt p k l → ∀ {i : Nat} {o : Oper}, l[i]? = some o → p (k + i) o
  | [], _, _, _, _, h => by simp at h
  | x :: r, k, h, 0, o, ho => by
    simp only [List.getElem?_cons_zero, Option.some.injEq] at ho
    subst ho
    exact h.1
  | x :: r, k, h, i + 1, o, ho => by
    simp only [List.getElem?_cons_succ] at ho
    have := AllAt.at_ h.2 ho
    rwa [show k + 1 + i = k + (i + 1) by omega] at this

/-- Does an operation wait for operation j? -/
def waits (o : Oper) (j : Nat) : Bool := o.after.any fun e => Region.binds .any e && e.on == j

/-- Each operation waits for earlier ones alone. -/
def acyclicB (l : List Oper) : Bool := (List.range l.length).all fun i => match l[i]? with
  | some o => o.after.all fun e => !Region.binds .any e || decide (e.on < i)
  | none => true

section
variable {P : Program} {l : List Oper} {Q : Exit → Act → World → Prop}

theorem all_listed (hac : acyclicB l = true) {listed : Array Bool} (hsz : listed.size = l.length) (hr : Region.ready .any l.toArray listed = []) :
    ∀ (n i : Nat), i ≤ n → i < l.length → listed.getD i false = true := by
  intro n
  induction n with
  | zero =>
    intro i hi hl
    have hi0 : i = 0 := by omega
    subst hi0
    cases hb : listed.getD 0 false with
    | true => rfl
    | false =>
      exfalso
      have hmem : 0 ∈ Region.ready .any l.toArray listed := by
        unfold Region.ready
        rw [List.mem_filter]
        have h1 : l[0]? = some l[0] := List.getElem?_eq_getElem hl
        have h2 := List.all_eq_true.1 hac 0 (List.mem_range.2 hl)
        rw [h1] at h2
        have hb' : listed.getD 0 true = false := by
          rw [Array.getD_eq_getD_getElem?, Array.getElem?_eq_getElem (by omega)] at hb ⊢
          simpa using hb
        refine ⟨List.mem_range.2 (by simpa using hl), ?_⟩
        rw [hb']
        simp only [List.getElem?_toArray, h1, Option.map_some, Option.getD_some, Bool.not_false, Bool.true_and]
        rw [Array.all_eq_true'] at h2 ⊢
        intro e he
        have := h2 e he
        simp only [Nat.not_lt_zero, decide_false, Bool.or_false] at this
        simp [this]
      rw [hr] at hmem
      cases hmem
  | succ n ih =>
    intro i hi hl
    by_cases hin : i ≤ n
    · exact ih i hin hl
    · have hi1 : i = n + 1 := by omega
      subst hi1
      cases hb : listed.getD (n + 1) false with
      | true => rfl
      | false =>
        exfalso
        have hmem : n + 1 ∈ Region.ready .any l.toArray listed := by
          unfold Region.ready
          rw [List.mem_filter]
          have h1 : l[n + 1]? = some l[n + 1] := List.getElem?_eq_getElem hl
          have h2 := List.all_eq_true.1 hac (n + 1) (List.mem_range.2 hl)
          rw [h1] at h2
          have hb' : listed.getD (n + 1) true = false := by
            rw [Array.getD_eq_getD_getElem?, Array.getElem?_eq_getElem (by omega)] at hb ⊢
            simpa using hb
          refine ⟨List.mem_range.2 (by simpa using hl), ?_⟩
          rw [hb']
          simp only [List.getElem?_toArray, h1, Option.map_some, Option.getD_some, Bool.not_false, Bool.true_and]
          rw [Array.all_eq_true'] at h2 ⊢
          intro e he
          have := h2 e he
          simp only [Bool.or_eq_true, decide_eq_true_eq] at this ⊢
          rcases this with h | h
          · exact .inl h
          · exact .inr (ih e.on (by omega) (by omega))
        rw [hr] at hmem
        cases hmem

theorem ready_waits {listed : Array Bool} {i : Nat} {o : Oper} (ho : l[i]? = some o) (hi : i ∈ Region.ready .any l.toArray listed) : ∀ j, waits o j = true → listed.getD j false = true := by
  intro j hj
  unfold Region.ready at hi
  rw [List.mem_filter] at hi
  have h2 := hi.2
  simp only [List.getElem?_toArray, ho, Option.map_some, Option.getD_some, Bool.and_eq_true] at h2
  obtain ⟨e, he, hb⟩ := Array.any_eq_true'.1 hj
  simp only [Bool.and_eq_true, beq_iff_eq] at hb
  have := Array.all_eq_true'.1 h2.2 e he
  simp only [Bool.or_eq_true, hb.1, Bool.not_true, Bool.false_eq_true, false_or] at this
  rw [← hb.2]
  exact this

theorem ready_fresh {listed : Array Bool} {i : Nat} (hi : i ∈ Region.ready .any l.toArray listed) : i < l.length ∧ listed.getD i true = false := by
  unfold Region.ready at hi
  rw [List.mem_filter] at hi
  have h1 := List.mem_range.1 hi.1
  have h2 := hi.2
  simp only [Bool.and_eq_true, Bool.not_eq_true'] at h2
  exact ⟨by simpa using h1, h2.1⟩

theorem wpAny_inv (I : (Nat → Prop) → Act → World → Prop) (hac : acyclicB l = true)
    (hstep : AllAt (fun i o => ∀ (D : Nat → Prop) (a : Act) (w : World) (K : Act → World → Prop), I D a w → ¬ D i → (∀ j, waits o j = true → D j) → (∀ a' w', I (fun j => D j ∨ j = i) a' w' → K a' w') →
      if Region.wanted o (yielded l.toArray a.tmps) then o.wp P a w K Q else K (a.put o.dst undef) w) 0 l)
    (hend : ∀ (D : Nat → Prop) (a : Act) (w : World), (∀ i, i < l.length → D i) → I D a w → Q .normal a w)
    (hI : ∀ (D D' : Nat → Prop) (a : Act) (w : World), (∀ j, D j ↔ D' j) → I D a w → I D' a w) :
    ∀ (fuel : Nat) (listed : Array Bool) (a : Act) (w : World), listed.size = l.length → listed.toList.count false ≤ fuel → I (fun j => listed.getD j false = true) a w → wpAny P .any l.toArray Q fuel listed a w := by
  intro fuel
  induction fuel with
  | zero =>
    intro listed a w hsz hc h
    have hall : ∀ i, i < l.length → listed.getD i false = true := by
      intro i hi
      have hn : false ∉ listed.toList := List.count_eq_zero.1 (by omega)
      have hlt : i < listed.size := by omega
      rw [Array.getD_eq_getD_getElem?, Array.getElem?_eq_getElem hlt, Option.getD_some]
      cases hb : listed[i] with
      | true => rfl
      | false => exact absurd (by rw [← hb]; simp) hn
    refine ⟨?_, hend _ _ _ hall h⟩
    cases hr : Region.ready .any l.toArray listed with
    | nil => rfl
    | cons x xs =>
      have hx := ready_fresh (show x ∈ Region.ready .any l.toArray listed by rw [hr]; simp)
      have h1 := hall x hx.1
      have hlt : x < listed.size := by omega
      have h2 := hx.2
      rw [Array.getD_eq_getD_getElem?, Array.getElem?_eq_getElem hlt, Option.getD_some] at h1 h2
      rw [h1] at h2
      cases h2
  | succ fuel ih =>
    intro listed a w hsz hc h
    refine ⟨fun hr => hend _ _ _ (fun i hi => all_listed hac hsz hr i i (Nat.le_refl _) hi) h, fun i hi => ?_⟩
    obtain ⟨hil, hfr⟩ := ready_fresh hi
    have ho : l[i]? = some l[i] := List.getElem?_eq_getElem hil
    have hlt : i < listed.size := by omega
    have hfr' : listed[i] = false := by
      rw [Array.getD_eq_getD_getElem?, Array.getElem?_eq_getElem hlt, Option.getD_some] at hfr
      exact hfr
    have hs := hstep.at_ ho
    rw [Nat.zero_add] at hs
    have hcount : (listed.setIfInBounds i true).toList.count false ≤ fuel := by
      have hlt' : i < listed.toList.length := by simpa using hlt
      rw [Array.toList_setIfInBounds, List.count_set hlt']
      have : listed.toList[i] = false := by simpa using hfr'
      rw [this, if_pos (by rfl), if_neg (by decide)]
      have hpos : 0 < listed.toList.count false := List.count_pos_iff.2 (by rw [← this]; exact List.getElem_mem hlt')
      omega
    have hgo := hs (fun j => listed.getD j false = true) a w (wpAny P .any l.toArray Q fuel (listed.setIfInBounds i true)) h
      (by rw [Array.getD_eq_getD_getElem?, Array.getElem?_eq_getElem hlt, Option.getD_some, hfr']; simp) (ready_waits ho hi) (fun a' w' h' => by
        refine ih _ _ _ (by simpa using hsz) hcount (hI _ _ _ _ (fun j => ?_) h')
        simp only [Array.getD_eq_getD_getElem?, Array.getElem?_setIfInBounds]
        by_cases hij : i = j
        · subst hij; simp [hlt]
        · simp [hij, Ne.symm hij])
    unfold wpOp
    simp only [List.getElem?_toArray, ho]
    split
    · rename_i hw; rw [if_pos hw] at hgo; exact .inl hgo
    · rename_i hw; rw [if_neg hw] at hgo; exact hgo

theorem wp_region_inv {id : Nat} {a : Act} {w : World} (I : (Nat → Prop) → Act → World → Prop) (hm : P.follows .mixedOrders = true) (hac : acyclicB l = true)
    (hI : ∀ (D D' : Nat → Prop) (a : Act) (w : World), (∀ j, D j ↔ D' j) → I D a w → I D' a w)
    (h0 : I (fun _ => False) a w.drew)
    (hstep : AllAt (fun i o => ∀ (D : Nat → Prop) (a : Act) (w : World) (K : Act → World → Prop), I D a w → ¬ D i → (∀ j, waits o j = true → D j) → (∀ a' w', I (fun j => D j ∨ j = i) a' w' → K a' w') →
      if Region.wanted o (yielded l.toArray a.tmps) then o.wp P a w K Q else K (a.put o.dst undef) w) 0 l)
    (hend : ∀ (D : Nat → Prop) (a : Act) (w : World), (∀ i, i < l.length → D i) → I D a w → Q .normal a w) : (Code.region id l.toArray true).wp P Q a w := by
  refine wp_region_any hm (wpAny_inv I hac hstep hend hI _ _ _ _ (by simp) ?_ (hI _ _ _ _ (fun j => ?_) h0))
  · simp
  · simp only [false_iff, Bool.not_eq_true]
    rcases Nat.lt_or_ge j l.length with h | h <;> simp [Array.getD_eq_getD_getElem?, h]
end
end Go.Proofs.YtjfkdjlmajfljaaDoor
