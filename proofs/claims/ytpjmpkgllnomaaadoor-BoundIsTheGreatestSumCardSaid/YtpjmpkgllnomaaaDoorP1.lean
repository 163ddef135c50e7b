/- The drawn program: what holds of it. -/
import Derived.Test.YtpjmpkgllnomaaaDoorGd
set_option linter.unusedVariables false
set_option linter.unusedSimpArgs false
namespace Go.Proofs.YtpjmpkgllnomaaaDoor.Q
/-- What a branch is told of its condition. -/
theorem wpH : (∀ (p : Prop) [Decidable p], decide p = true ↔ p) ∧ (∀ (p : Prop) [Decidable p], decide p = false ↔ ¬p) ∧ (∀ b : Bool, ((!b) = true) ↔ (b = false)) ∧ (∀ b : Bool, ((!b) = false) ↔ (b = true)) ∧ (∀ a b : Bool, (a && b) = true ↔ a = true ∧ b = true) ∧ (∀ a b : Bool, (a || b) = true ↔ a = true ∨ b = true) ∧ (∀ b : Bool, ¬b = true ↔ b = false) ∧ (∀ b : Bool, ¬b = false ↔ b = true) ∧ (∀ a b : Int, ¬a < b ↔ b ≤ a) ∧ (∀ a b : Int, ¬a ≤ b ↔ b < a) := ⟨fun p _ => by rw [decide_eq_true_eq], fun p _ => decide_eq_false_iff_not, fun b => by cases b <;> simp, fun b => by cases b <;> simp, fun a b => by cases a <;> cases b <;> simp, fun a b => by cases a <;> cases b <;> simp, fun b => by cases b <;> simp, fun b => by cases b <;> simp, fun a b => Int.not_lt, fun a b => Int.not_le⟩
/-- Codes that can be read on. -/
structure okC (c : DCodes) : Prop where
  list : ∀ x ∈ c.list, 0 ≤ x ∧ x ≤ 255
  lo : 0 ≤ c.at_
  hi : c.at_ ≤ (c.list.length : Int)
  len : c.list.length ≤ 1000000
theorem okC.at' {c : DCodes} (h : okC c) (hl : c.at_ < (c.list.length : Int)) : 0 ≤ atD c.list c.at_ ∧ atD c.list c.at_ ≤ 255 := h.list _ (atD_mem ⟨h.lo, hl⟩)
theorem new_sp (l : List Int) (n : Int) (hl : ∀ x ∈ l, 0 ≤ x ∧ x ≤ 255) (hn : 0 ≤ n ∧ n ≤ 1000000) : WP (draw_New l n) okC := by
  unfold draw_New
  refine WP.chk (by omega) fun _ => WP.ret ⟨fun x hx => ?_, Int.le_refl _, ?_, ?_⟩
  · exact hl x (List.drop_subset _ _ (List.take_subset _ _ hx))
  · exact Int.natCast_nonneg _
  · simp only [sliceD, List.length_take, List.length_drop]; omega
theorem next_sp (c : DCodes) (n : Int) (hc : okC c) (hn : n ≤ 1000000) : WP (draw_Next c n) fun r => okC r.2 ∧ 0 ≤ r.1 ∧ (1 ≤ n → r.1 < n) ∧ (n < 1 → r.1 = 0) := by
  have h0 := hc.lo
  have h1 := hc.hi
  have h2 := hc.len
  unfold draw_Next draw_Left
  refine WP.call (R := fun a => a = (decide (c.at_ < (c.list.length : Int)), c)) (WP.ret rfl) ?_
  rintro _ rfl
  dsimp only
  refine WP.bif (fun wh => ?_) (fun wh => ?_) <;> (try simp only [wpH, ne_eq] at wh)
  · exact WP.ret ⟨hc, Int.le_refl _, fun h => by omega, fun _ => rfl⟩
  refine WP.bif (fun wh => ?_) (fun wh => ?_) <;> (try simp only [wpH, ne_eq] at wh)
  · exact WP.ret ⟨hc, Int.le_refl _, fun h => by omega, fun _ => rfl⟩
  have h3 := hc.at' (by assumption)
  generalize atD c.list c.at_ = v at h3
  have h4 : 0 ≤ v * n := Int.mul_nonneg h3.1 (by omega)
  have h5 : v * n ≤ 255 * n := Int.mul_le_mul_of_nonneg_right h3.2 (by omega)
  have h6 : v * n / 256 < n := Int.ediv_lt_of_lt_mul (by omega) (by omega)
  (repeat' (first | (refine WP.chk (by (first | omega | (simp only [okI, List.length_append, List.length_cons, List.length_nil, length_setD, length_repD] at *; omega))) fun _ => ?_) | ((refine WP.bif (fun wh => ?_) (fun wh => ?_)) <;> (try simp only [wpH, ne_eq] at wh) <;> (try (exfalso; omega)))))
  exact WP.ret ⟨⟨hc.list, by show 0 ≤ c.at_ + 1; omega, by show c.at_ + 1 ≤ (c.list.length : Int); omega, hc.len⟩, Int.ediv_nonneg h4 (by omega), fun _ => h6, fun h => by omega⟩
def inN (x n : Int) : Prop := 0 ≤ x ∧ x < n
theorem one_mem {α : Type} {x y : α} (h : x ∈ [y]) : x = y := by simpa using h
theorem atD_append_left {α : Type} [Inhabited α] {l m : List α} {i : Int} (h : i.toNat < l.length) : atD (l ++ m) i = atD l i := by
  unfold atD
  rw [List.getD_eq_getElem?_getD, List.getD_eq_getElem?_getD, List.getElem?_append_left h]
theorem atD_last {α : Type} [Inhabited α] {l : List α} {x : α} {i : Int} (h : i = (l.length : Int)) : atD (l ++ [x]) i = x := by
  subst h
  unfold atD
  rw [List.getD_eq_getElem?_getD, Int.toNat_natCast, List.getElem?_append_right (Nat.le_refl _)]
  simp
theorem atD_setD {α : Type} [Inhabited α] {l : List α} {i j : Int} {v : α} (hi : 0 ≤ i ∧ i < (l.length : Int)) (hj : 0 ≤ j) : atD (setD l i v) j = if j = i then v else atD l j := by
  unfold atD setD
  rw [List.getD_eq_getElem?_getD, List.getD_eq_getElem?_getD, List.getElem?_set]
  by_cases h : j = i
  · subst h; rw [if_pos rfl, if_pos rfl, if_pos (by omega)]; rfl
  · rw [if_neg h, if_neg (by omega)]
theorem mem_atD {α : Type} [Inhabited α] {l : List α} {x : α} (h : x ∈ l) : ∃ i : Int, 0 ≤ i ∧ i < (l.length : Int) ∧ atD l i = x := by
  obtain ⟨n, hn, rfl⟩ := List.getElem_of_mem h
  exact ⟨n, by omega, by omega, atD_nat hn⟩
def isU8 (cs : List Int) : Prop := ∀ x ∈ cs, 0 ≤ x ∧ x ≤ 255
end Go.Proofs.YtpjmpkgllnomaaaDoor.Q
