/- The drawn program: what holds of it. -/
import Derived.Test.YthlpmklgokjdkaaGd
set_option linter.unusedVariables false
set_option linter.unusedSimpArgs false
namespace Go.Proofs.Ythlpmklgokjdkaa.Q
/-- What a branch is told of its condition. -/
theorem wpH : (∀ (p : Prop) [Decidable p], decide p = true ↔ p) ∧ (∀ (p : Prop) [Decidable p], decide p = false ↔ ¬p) ∧ (∀ b : Bool, ((!b) = true) ↔ (b = false)) ∧ (∀ b : Bool, ((!b) = false) ↔ (b = true)) ∧ (∀ a b : Bool, (a && b) = true ↔ a = true ∧ b = true) ∧ (∀ a b : Bool, (a || b) = true ↔ a = true ∨ b = true) ∧ (∀ b : Bool, ¬b = true ↔ b = false) ∧ (∀ b : Bool, ¬b = false ↔ b = true) ∧ (∀ a b : Int, ¬a < b ↔ b ≤ a) ∧ (∀ a b : Int, ¬a ≤ b ↔ b < a) := ⟨fun p _ => by rw [decide_eq_true_eq], fun p _ => decide_eq_false_iff_not, fun b => by cases b <;> simp, fun b => by cases b <;> simp, fun a b => by cases a <;> cases b <;> simp, fun a b => by cases a <;> cases b <;> simp, fun b => by cases b <;> simp, fun b => by cases b <;> simp, fun a b => Int.not_lt, fun a b => Int.not_le⟩
/-- Codes that can be read on. -/
structure okC (c : DCodes) : Prop where
  list : ∀ x ∈ c.list, 0 ≤ x ∧ x ≤ 255
  lo : 0 ≤ c.at_
  hi : c.at_ ≤ (c.list.length : Int)
  len : c.list.length ≤ 1000000
theorem okC.at' {c : DCodes} (h : okC c) (hl : c.at_ < (c.list.length : Int)) : 0 ≤ atD c.list c.at_ ∧ atD c.list c.at_ ≤ 255 := h.list _ (atD_mem ⟨h.lo, hl⟩)
theorem new_sp (l : List Int) (n : Int) (hl : ∀ x ∈ l, 0 ≤ x ∧ x ≤ 255) (hn : 0 ≤ n ∧ n ≤ 1000000) : WP (draw_New l n) okC := by
  unfold draw_New
  refine WP.chk (by omega) fun _ => WP.ret ⟨fun x hx => ?_, Int.le_refl _, ?_, ?_⟩
  · exact hl x (List.drop_subset _ _ (List.take_subset _ _ hx))
  · exact Int.natCast_nonneg _
  · simp only [sliceD, List.length_take, List.length_drop]; omega
theorem next_sp (c : DCodes) (n : Int) (hc : okC c) (hn : n ≤ 1000000) : WP (draw_Next c n) fun r => okC r.2 ∧ 0 ≤ r.1 ∧ (1 ≤ n → r.1 < n) ∧ (n < 1 → r.1 = 0) := by
  have h0 := hc.lo
  have h1 := hc.hi
  have h2 := hc.len
  unfold draw_Next draw_Left
  refine WP.call (R := fun a => a = (decide (c.at_ < (c.list.length : Int)), c)) (WP.ret rfl) ?_
  rintro _ rfl
  dsimp only
  refine WP.bif (fun wh => ?_) (fun wh => ?_) <;> (try simp only [wpH, ne_eq] at wh)
  · exact WP.ret ⟨hc, Int.le_refl _, fun h => by omega, fun _ => rfl⟩
  refine WP.bif (fun wh => ?_) (fun wh => ?_) <;> (try simp only [wpH, ne_eq] at wh)
  · exact WP.ret ⟨hc, Int.le_refl _, fun h => by omega, fun _ => rfl⟩
  have h3 := hc.at' (by assumption)
  generalize atD c.list c.at_ = v at h3
  have h4 : 0 ≤ v * n := Int.mul_nonneg h3.1 (by omega)
  have h5 : v * n ≤ 255 * n := Int.mul_le_mul_of_nonneg_right h3.2 (by omega)
  have h6 : v * n / 256 < n := Int.ediv_lt_of_lt_mul (by omega) (by omega)
  (repeat' (first | (refine WP.chk (by (first | omega | (simp only [okI, List.length_append, List.length_cons, List.length_nil, length_setD, length_repD] at *; omega))) fun _ => ?_) | ((refine WP.bif (fun wh => ?_) (fun wh => ?_)) <;> (try simp only [wpH, ne_eq] at wh) <;> (try (exfalso; omega)))))
  exact WP.ret ⟨⟨hc.list, by show 0 ≤ c.at_ + 1; omega, by show c.at_ + 1 ≤ (c.list.length : Int); omega, hc.len⟩, Int.ediv_nonneg h4 (by omega), fun _ => h6, fun h => by omega⟩
/-- A slot that is right. -/
def rightS (s : ASlot) : Prop := (s.Size = 1 ∨ s.Size = 2 ∨ s.Size = 4 ∨ s.Size = 8 ∨ s.Size = 16) ∧ (s.Align = 1 ∨ s.Align = 2 ∨ s.Align = 4 ∨ s.Align = 8 ∨ s.Align = 16 ∨ s.Align = 32 ∨ s.Align = 64)
theorem slot_sp (c : DCodes) (hc : okC c) : WP (draw_Slot c) fun r => okC r.2 ∧ rightS r.1 := by
  unfold draw_Slot
  refine WP.call (next_sp c 7 hc (by omega)) fun x1 ⟨h1, h2, h3, h4⟩ => ?_
  (repeat' (first | (refine WP.chk (by (first | omega | (simp only [okI, List.length_append, List.length_cons, List.length_nil, length_setD, length_repD] at *; omega))) fun _ => ?_) | ((refine WP.bif (fun wh => ?_) (fun wh => ?_)) <;> (try simp only [wpH, ne_eq] at wh) <;> (try (exfalso; omega)))))
  refine WP.call (next_sp _ 8 h1 (by omega)) fun x2 ⟨h5, h6, h7, h8⟩ => ?_
  (repeat' (first | (refine WP.chk (by (first | omega | (simp only [okI, List.length_append, List.length_cons, List.length_nil, length_setD, length_repD] at *; omega))) fun _ => ?_) | ((refine WP.bif (fun wh => ?_) (fun wh => ?_)) <;> (try simp only [wpH, ne_eq] at wh) <;> (try (exfalso; omega)))))
  refine WP.ret ⟨h5, ?_, ?_⟩
  · have : x1.1 = 0 ∨ x1.1 = 1 ∨ x1.1 = 2 ∨ x1.1 = 3 ∨ x1.1 = 4 ∨ x1.1 = 5 ∨ x1.1 = 6 := by omega
    rcases this with h | h | h | h | h | h | h <;> rw [h] <;> simp [atD]
  · have : x2.1 = 0 ∨ x2.1 = 1 ∨ x2.1 = 2 ∨ x2.1 = 3 ∨ x2.1 = 4 ∨ x2.1 = 5 ∨ x2.1 = 6 ∨ x2.1 = 7 := by omega
    rcases this with h | h | h | h | h | h | h | h <;> rw [h] <;> simp [atD]
theorem slots_sp (c : DCodes) (most : Int) (hc : okC c) (hm : 0 ≤ most ∧ most ≤ 1000) : WP (draw_Slots c most) fun r => okC r.2 ∧ (r.1.length : Int) ≤ most ∧ ∀ s ∈ r.1, rightS s := by
  unfold draw_Slots
  (repeat' (first | (refine WP.chk (by (first | omega | (simp only [okI, List.length_append, List.length_cons, List.length_nil, length_setD, length_repD] at *; omega))) fun _ => ?_) | ((refine WP.bif (fun wh => ?_) (fun wh => ?_)) <;> (try simp only [wpH, ne_eq] at wh) <;> (try (exfalso; omega)))))
  refine WP.call (next_sp c _ hc (by omega)) fun x1 ⟨h1, h2, h3, h4⟩ => ?_
  refine WP.loop (fun j => 0 ≤ j.1 ∧ okC j.2.1 ∧ j.1 + (j.2.2.length : Int) ≤ most ∧ ∀ s ∈ j.2.2, rightS s) (fun j => j.1.toNat) ⟨h2, h1, by simp; omega, by simp⟩ ?_
  rintro again ⟨n, c2, l⟩ ⟨h5, h6, h7, h8⟩ ih
  dsimp only at h5 h6 h7 h8 ih ⊢
  (repeat' (first | (refine WP.chk (by (first | omega | (simp only [okI, List.length_append, List.length_cons, List.length_nil, length_setD, length_repD] at *; omega))) fun _ => ?_) | ((refine WP.bif (fun wh => ?_) (fun wh => ?_)) <;> (try simp only [wpH, ne_eq] at wh) <;> (try (exfalso; omega)))))
  · refine WP.call (slot_sp c2 h6) fun x2 ⟨h9, h10⟩ => ?_
    (repeat' (first | (refine WP.chk (by (first | omega | (simp only [okI, List.length_append, List.length_cons, List.length_nil, length_setD, length_repD] at *; omega))) fun _ => ?_) | ((refine WP.bif (fun wh => ?_) (fun wh => ?_)) <;> (try simp only [wpH, ne_eq] at wh) <;> (try (exfalso; omega)))))
    refine ih _ ⟨by omega, h9, by simp; omega, ?_⟩ (by dsimp only; omega)
    intro s hs
    rcases List.mem_append.1 hs with hs | hs
    · exact h8 s hs
    · simp at hs; rw [hs]; exact h10
  · exact WP.ret ⟨h6, by dsimp only; omega, h8⟩
def inN (x n : Int) : Prop := 0 ≤ x ∧ x < n
theorem atD_setD {α : Type} [Inhabited α] {l : List α} {i j : Int} {v : α} (hi : 0 ≤ i ∧ i < (l.length : Int)) (hj : 0 ≤ j) : atD (setD l i v) j = if j = i then v else atD l j := by
  unfold atD setD
  rw [List.getD_eq_getElem?_getD, List.getD_eq_getElem?_getD, List.getElem?_set]
  by_cases h : j = i
  · subst h; rw [if_pos rfl, if_pos rfl, if_pos (by omega)]; rfl
  · rw [if_neg h, if_neg (by omega)]
theorem mem_atD {α : Type} [Inhabited α] {l : List α} {x : α} (h : x ∈ l) : ∃ i : Int, 0 ≤ i ∧ i < (l.length : Int) ∧ atD l i = x := by
  obtain ⟨n, hn, rfl⟩ := List.getElem_of_mem h
  exact ⟨n, by omega, by omega, atD_nat hn⟩
end Go.Proofs.Ythlpmklgokjdkaa.Q
