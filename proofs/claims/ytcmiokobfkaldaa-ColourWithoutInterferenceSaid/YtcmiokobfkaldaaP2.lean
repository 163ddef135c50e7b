/- Sizes, alignments, arguments: what the functions compute. -/
import Derived.Test.YtcmiokobfkaldaaP1
set_option linter.unusedVariables false
set_option linter.unusedSimpArgs false
namespace Go.Proofs.Ytcmiokobfkaldaa.Q
theorem take_atD {α : Type} [Inhabited α] {l : List α} {k : Int} (h : 0 ≤ k ∧ k < (l.length : Int)) : l.take (k + 1).toNat = l.take k.toNat ++ [atD l k] := by
  have h1 : k.toNat < l.length := by omega
  rw [show (k + 1).toNat = k.toNat + 1 by omega, List.take_succ_eq_append_getElem h1]
  congr 1
  have := atD_nat h1
  rw [Int.toNat_of_nonneg h.1] at this
  rw [this]
theorem take_all {α : Type} {l : List α} {k : Int} (h : (l.length : Int) ≤ k) : l.take k.toNat = l := List.take_of_length_le (by omega)
def sizeB (n : Int) : Bool := decide (n = 1 ∨ n = 2 ∨ n = 4 ∨ n = 8 ∨ n = 16)
theorem size_sp (n : Int) : WP (r02_Size n) (· = sizeB n) := by
  unfold r02_Size sizeB
  (repeat' (first | (refine WP.chk (by (first | omega | (simp only [okI, List.length_append, List.length_cons, List.length_nil, length_setD, length_repD] at *; omega))) fun _ => ?_) | ((refine WP.bif (fun wh => ?_) (fun wh => ?_)) <;> (try simp only [wpH, ne_eq] at wh) <;> (try (exfalso; omega)))))
  all_goals (refine WP.ret ?_; simp_all)
/-- Powers of two, to the greatest alignment. -/
def powL : Nat → Int → List Int
  | 0, _ => []
  | n + 1, k => k :: powL n (k * 2)
def powB (n : Int) : Bool := decide (n ∈ powL 25 1)
theorem power_sp (n : Int) : WP (r03_Power n) (· = powB n) := by
  unfold r03_Power powB
  refine WP.loop (fun j => ∃ m : Nat, m ≤ 25 ∧ j = 2 ^ (25 - m) ∧ (n ∈ powL 25 1 ↔ n ∈ powL m j)) (fun j => (33554433 - j).toNat) ⟨25, by omega, rfl, Iff.rfl⟩ ?_
  rintro again j ⟨m, hm, hj, hi⟩ ih
  have hj0 : 0 < j := by rw [hj]; exact Int.pow_pos (by omega)
  refine WP.bif (fun wh => ?_) (fun wh => ?_) <;> (try simp only [wpH, ne_eq] at wh)
  · obtain ⟨m', rfl⟩ : ∃ m', m = m' + 1 := by
      cases m with
      | zero => exfalso; rw [hj] at wh; revert wh; decide
      | succ m' => exact ⟨m', rfl⟩
    (repeat' (first | (refine WP.chk (by (first | omega | (simp only [okI, List.length_append, List.length_cons, List.length_nil, length_setD, length_repD] at *; omega))) fun _ => ?_) | ((refine WP.bif (fun wh => ?_) (fun wh => ?_)) <;> (try simp only [wpH, ne_eq] at wh) <;> (try (exfalso; omega)))))
    · refine WP.ret ?_
      rw [eq_comm, decide_eq_true_eq, hi]
      rw [wh]
      exact List.mem_cons_self
    · refine ih _ ⟨m', by omega, ?_, ?_⟩ (by omega)
      · rw [hj, ← Int.pow_succ]; congr 1; omega
      · rw [hi]
        exact ⟨fun q => (List.mem_cons.1 q).resolve_left wh, fun q => List.mem_cons_of_mem _ q⟩
  · have hm0 : m = 0 := by
      have : m = 0 ∨ 1 ≤ m := by omega
      rcases this with h | h
      · exact h
      · exfalso
        have h2 : 2 ^ (25 - m) ≤ 2 ^ 24 := Nat.pow_le_pow_right (by omega) (by omega)
        have h3 : (2 : Int) ^ (25 - m) = ((2 ^ (25 - m) : Nat) : Int) := by rw [Int.natCast_pow]; rfl
        rw [← hj] at h3
        omega
    subst hm0
    refine WP.ret ?_
    rw [eq_comm, decide_eq_false_iff_not, hi]
    exact List.not_mem_nil
theorem powB_small {n : Int} (h : n = 1 ∨ n = 2 ∨ n = 4 ∨ n = 8 ∨ n = 16 ∨ n = 32 ∨ n = 64) : powB n = true := by
  rcases h with h | h | h | h | h | h | h <;> subst h <;> decide
def slotB (s : ASlot) : Bool := sizeB s.Size && powB s.Align
def slotsE (s : List ASlot) : Int := if 512 < s.length then 3 else if s.all slotB then 0 else 5
theorem slots3_sp (s : List ASlot) (hl : s.length ≤ 1000000000) : WP (r03_Slots s) (· = slotsE s) := by
  unfold r03_Slots slotsE
  refine WP.bif (fun wh => ?_) (fun wh => ?_) <;> (try simp only [wpH, ne_eq] at wh)
  · exact WP.ret (by rw [if_pos (by omega)])
  rw [if_neg (by omega)]
  refine WP.loop (fun j => 0 ≤ j ∧ j ≤ s.length ∧ (s.take j.toNat).all slotB = true) (fun j => s.length - j.toNat) ⟨by omega, by omega, rfl⟩ ?_
  rintro again i ⟨h1, h2, h3⟩ ih
  refine WP.bif (fun wh => ?_) (fun wh => ?_) <;> (try simp only [wpH, ne_eq] at wh)
  · have hm : atD s i ∈ s := atD_mem ⟨h1, wh⟩
    have hbad : slotB (atD s i) = false → (if s.all slotB = true then (0 : Int) else 5) = 5 := fun hb => by
      rw [if_neg]
      intro ha
      rw [List.all_eq_true.1 ha _ hm] at hb
      cases hb
    (repeat' (first | (refine WP.chk (by (first | omega | (simp only [okI, List.length_append, List.length_cons, List.length_nil, length_setD, length_repD] at *; omega))) fun _ => ?_) | ((refine WP.bif (fun wh => ?_) (fun wh => ?_)) <;> (try simp only [wpH, ne_eq] at wh) <;> (try (exfalso; omega)))))
    refine WP.call (size_sp _) ?_
    rintro _ rfl
    refine WP.bif (fun wh => ?_) (fun wh => ?_) <;> (try simp only [wpH, ne_eq] at wh)
    · exact WP.ret (hbad (by unfold slotB; rw [wh]; rfl)).symm
    have hs := wh
    (repeat' (first | (refine WP.chk (by (first | omega | (simp only [okI, List.length_append, List.length_cons, List.length_nil, length_setD, length_repD] at *; omega))) fun _ => ?_) | ((refine WP.bif (fun wh => ?_) (fun wh => ?_)) <;> (try simp only [wpH, ne_eq] at wh) <;> (try (exfalso; omega)))))
    refine WP.call (power_sp _) ?_
    rintro _ rfl
    refine WP.bif (fun wh => ?_) (fun wh => ?_) <;> (try simp only [wpH, ne_eq] at wh)
    · exact WP.ret (hbad (by unfold slotB; rw [wh]; simp)).symm
    have hp := wh
    (repeat' (first | (refine WP.chk (by (first | omega | (simp only [okI, List.length_append, List.length_cons, List.length_nil, length_setD, length_repD] at *; omega))) fun _ => ?_) | ((refine WP.bif (fun wh => ?_) (fun wh => ?_)) <;> (try simp only [wpH, ne_eq] at wh) <;> (try (exfalso; omega)))))
    refine ih _ ⟨by omega, by omega, ?_⟩ (by omega)
    rw [take_atD ⟨h1, by assumption⟩, List.all_append, h3]
    simp [slotB, hs, hp]
  · refine WP.ret ?_
    rw [take_all (by omega)] at h3
    rw [if_pos h3]
theorem rightS.slotB {s : ASlot} (h : rightS s) : slotB s = true := by
  unfold Go.Proofs.Ytcmiokobfkaldaa.Q.slotB
  rw [powB_small h.2]
  simp [sizeB, h.1]
theorem slotsE_right {s : List ASlot} (hl : s.length ≤ 512) (h : ∀ x ∈ s, rightS x) : slotsE s = 0 := by
  unfold slotsE
  rw [if_neg (by omega), if_pos (List.all_eq_true.2 fun x hx => (h x hx).slotB)]
end Go.Proofs.Ytcmiokobfkaldaa.Q
