/- Colours: which graphs are right, the order of slots, assigning offsets. -/
import Derived.Test.YthlpmklgokjdkaaP3f
import Derived.Test.YthlpmklgokjdkaaP4
set_option linter.unusedVariables false
set_option linter.unusedSimpArgs false
namespace Go.Proofs.Ythlpmklgokjdkaa.Q
theorem within4_sp (n : Int) : WP (bitset_within_int_ n) (· = in512 n) := by
  unfold bitset_within_int_ in512
  (repeat' (first | (refine WP.chk (by (first | omega | (simp only [okI, List.length_append, List.length_cons, List.length_nil, length_setD, length_repD] at *; omega))) fun _ => ?_) | ((refine WP.bif (fun wh => ?_) (fun wh => ?_)) <;> (try simp only [wpH, ne_eq] at wh) <;> (try (exfalso; omega)))))
  all_goals (refine WP.ret ?_; rw [Bool.eq_iff_iff]; simp; try omega)
theorem bcheck_sp (s : List Int) (hl : s.length ≤ 9223372036854775807) : WP (bitset_Check s) (· = ascS s) := by
  unfold bitset_Check
  have hat : ∀ i : Int, 0 ≤ i → i < s.length → s.getD i.toNat 0 = atD s i := fun i h1 h2 => by
    unfold atD; rfl
  have hbad : ∀ i : Int, 0 ≤ i → i < s.length → (in512 (atD s i) = false ∨ (0 < i ∧ atD s i ≤ atD s (i - 1))) → ascS s = false := fun i h1 h2 h => by
    unfold ascS
    rw [List.all_eq_false]
    refine ⟨i.toNat, List.mem_range.2 (by omega), ?_⟩
    rw [hat i h1 h2]
    rcases h with h | ⟨h3, h4⟩
    · simp [h]
    · have e1 : ¬ i.toNat = 0 := by omega
      have e2 : s.getD (i.toNat - 1) 0 = atD s (i - 1) := by rw [← hat (i - 1) (by omega) (by omega)]; congr 1; omega
      rw [e2]
      simp [e1]
      intro _; omega
  refine WP.loop (fun i => 0 ≤ i ∧ i ≤ s.length ∧ ∀ k : Int, 0 ≤ k → k < i → in512 (atD s k) = true ∧ (0 < k → atD s (k - 1) < atD s k)) (fun i => s.length - i.toNat) ⟨by omega, by omega, by intro k h1 h2; omega⟩ ?_
  rintro again i ⟨h1, h2, h3⟩ ih
  refine WP.bif (fun wh => ?_) (fun wh => ?_) <;> (try simp only [wpH, ne_eq] at wh)
  · have hlt := wh
    (repeat' (first | (refine WP.chk (by (first | omega | (simp only [okI, List.length_append, List.length_cons, List.length_nil, length_setD, length_repD] at *; omega))) fun _ => ?_) | ((refine WP.bif (fun wh => ?_) (fun wh => ?_)) <;> (try simp only [wpH, ne_eq] at wh) <;> (try (exfalso; omega)))))
    refine WP.call (within4_sp _) ?_
    rintro _ rfl
    refine WP.bif (fun wh => ?_) (fun wh => ?_) <;> (try simp only [wpH, ne_eq] at wh)
    · exact WP.ret (hbad i h1 hlt (.inl wh)).symm
    have hg := wh
    have step : (0 < i → atD s (i - 1) < atD s i) → ∀ k : Int, 0 ≤ k → k < i + 1 → in512 (atD s k) = true ∧ (0 < k → atD s (k - 1) < atD s k) := fun h k q1 q2 => by
      by_cases hk : k = i
      · subst hk; exact ⟨hg, h⟩
      · exact h3 k q1 (by omega)
    (repeat' (first | (refine WP.chk (by (first | omega | (simp only [okI, List.length_append, List.length_cons, List.length_nil, length_setD, length_repD] at *; omega))) fun _ => ?_) | ((refine WP.bif (fun wh => ?_) (fun wh => ?_)) <;> (try simp only [wpH, ne_eq] at wh) <;> (try (exfalso; omega)))))
    · exact WP.ret (hbad i h1 hlt (.inr ⟨by omega, by omega⟩)).symm
    · exact ih _ ⟨by omega, by omega, step fun _ => by omega⟩ (by omega)
    · exact ih _ ⟨by omega, by omega, step fun _ => by omega⟩ (by omega)
  · refine WP.ret ?_
    rw [eq_comm]
    unfold ascS
    rw [List.all_eq_true]
    intro j hj
    have hj' : (j : Int) < s.length := by have := List.mem_range.1 hj; omega
    have h4 := h3 j (by omega) (by omega)
    have e1 : s.getD j 0 = atD s (j : Int) := by rw [← hat j (by omega) hj']; rfl
    rw [e1, h4.1]
    by_cases hj0 : j = 0
    · simp [hj0]
    · have e2 : s.getD (j - 1) 0 = atD s ((j : Int) - 1) := by rw [← hat _ (by omega) (by omega)]; congr 1; omega
      rw [e2]
      simp [hj0]
      exact h4.2 (by omega)
theorem memAtN {l : List Int} {v : Int} (h : v ∈ l) : ∃ t, inN t l.length ∧ atD l t = v := by
  obtain ⟨t, ht, rfl⟩ := List.mem_iff_getElem.1 h
  exact ⟨t, ⟨by omega, by omega⟩, atD_nat ht⟩
theorem contains_sp (s : List Int) (v : Int) (hl : s.length ≤ 9223372036854775807) : WP (slices_Contains___int_int_ s v) (· = decide (v ∈ s)) := by
  unfold slices_Contains___int_int_
  refine WP.call (R := fun i => 0 ≤ i ↔ v ∈ s) ?_ fun i hi => WP.ret (by rw [Bool.eq_iff_iff, decide_eq_true_eq, decide_eq_true_eq]; exact hi)
  unfold slices_Index___int_int_
  refine WP.loop (fun j => 0 ≤ j ∧ j ≤ s.length ∧ ∀ t, inN t s.length → t < j → atD s t ≠ v) (fun j => s.length - j.toNat) ⟨by omega, by omega, fun t ht h => by have := ht.1; omega⟩ ?_
  rintro again k ⟨a1, a2, a3⟩ ih
  refine WP.bif (fun wh => ?_) (fun wh => ?_) <;> (try simp only [wpH, ne_eq] at wh)
  · refine WP.chk ⟨a1, wh⟩ fun _ => ?_
    refine WP.bif (fun hb => ?_) (fun hb => ?_)
    · have hv : v = atD s k := by simpa using hb
      exact WP.ret ⟨fun _ => by rw [hv]; exact atD_mem ⟨a1, wh⟩, fun _ => a1⟩
    · have hv : ¬ v = atD s k := by simpa using hb
      refine WP.chk ⟨by omega, by omega⟩ fun _ => ?_
      refine ih _ ⟨by omega, by omega, fun t h1 h2 => ?_⟩ (by omega)
      by_cases ht : t = k
      · subst ht; exact fun e => hv e.symm
      · exact a3 t h1 (by omega)
  · refine WP.ret ⟨fun h => by omega, fun h => ?_⟩
    obtain ⟨t, ht, e⟩ := memAtN h
    exact absurd e (a3 t ht (by have := ht.2; omega))
theorem less_sp (a b : Int) : WP (cmp_Less_int_ a b) (· = decide (a < b)) := by
  unfold cmp_Less_int_ cmp_isNaN_int_
  refine WP.call (WP.ret rfl) ?_
  rintro _ rfl
  refine WP.bif (fun w => by simp at w) (fun _ => WP.ret rfl)
theorem asc_at {s : List Int} (h : s.Pairwise (· < ·)) {i j : Int} (hi : inN i s.length) (hj : inN j s.length) (hij : i < j) : atD s i < atD s j := by
  have h1 := List.pairwise_iff_getElem.1 h i.toNat j.toNat (by have := hi.1; have := hi.2; omega) (by have := hj.1; have := hj.2; omega) (by have := hi.1; omega)
  have e1 : atD s i = s[i.toNat]'(by have := hi.1; have := hi.2; omega) := by have := atD_nat (l := s) (i := i.toNat) (by have := hi.1; have := hi.2; omega); rw [Int.toNat_of_nonneg hi.1] at this; exact this
  have e2 : atD s j = s[j.toNat]'(by have := hj.1; have := hj.2; omega) := by have := atD_nat (l := s) (i := j.toNat) (by have := hj.1; have := hj.2; omega); rw [Int.toNat_of_nonneg hj.1] at this; exact this
  rw [e1, e2]; exact h1
theorem bsearch_sp (s : List Int) (t : Int) (hs : IsS s) (hl : s.length ≤ 1000000000) : WP (slices_BinarySearch___int_int_ s t) (·.2 = decide (t ∈ s)) := by
  unfold slices_BinarySearch___int_int_
  refine WP.loop (fun p => 0 ≤ p.1 ∧ p.1 ≤ p.2 ∧ p.2 ≤ s.length ∧ (∀ k, inN k s.length → k < p.1 → atD s k < t) ∧ ∀ k, inN k s.length → p.2 ≤ k → t ≤ atD s k) (fun p => (p.2 - p.1).toNat) ⟨by simp, by dsimp only; omega, by simp, fun k h1 h2 => by have := h1.1; dsimp only at h2; omega, fun k h1 h2 => by have := h1.2; dsimp only at h2; omega⟩ ?_
  rintro again ⟨i, j⟩ ⟨a1, a2, a3, a4, a5⟩ ih
  dsimp only at a1 a2 a3 a4 a5 ⊢
  refine WP.bif (fun wh => ?_) (fun wh => ?_) <;> (try simp only [wpH, ne_eq] at wh)
  · have e : (i + j) / 2 ^ (1 : Int).toNat = (i + j) / 2 := rfl
    rw [e]
    have hm : i ≤ (i + j) / 2 ∧ (i + j) / 2 < j := by omega
    generalize (i + j) / 2 = m at *
    refine WP.chk ⟨by omega, by omega⟩ fun _ => WP.chk ⟨by omega, by omega⟩ fun _ => WP.chk ⟨by omega, by omega⟩ fun _ => WP.chk ⟨by omega, by omega⟩ fun _ => WP.chk ⟨by omega, by omega⟩ fun _ => ?_
    refine WP.call (less_sp _ _) ?_
    rintro _ rfl
    have hmn : inN m s.length := ⟨by omega, by omega⟩
    refine WP.bif (fun wl => ?_) (fun wl => ?_)
    · have w : atD s m < t := by simpa using wl
      refine WP.chk ⟨by omega, by omega⟩ fun _ => ?_
      refine ih _ ⟨by dsimp only; omega, by dsimp only; omega, by dsimp only; omega, fun k h1 h2 => ?_, a5⟩ (by dsimp only; omega)
      dsimp only at h2
      by_cases hk : k = m
      · subst hk; exact w
      · have := asc_at hs.asc h1 hmn (by omega); omega
    · have w : ¬ atD s m < t := by simpa using wl
      refine ih _ ⟨by dsimp only; omega, by dsimp only; omega, by dsimp only; omega, a4, fun k h1 h2 => ?_⟩ (by dsimp only; omega)
      dsimp only at h2
      by_cases hk : k = m
      · subst hk; omega
      · have := asc_at hs.asc hmn h1 (by omega); omega
  · have hij : i = j := by omega
    subst hij
    refine WP.bif (fun wi => ?_) (fun wi => ?_)
    · have wi' : i < s.length := by simpa using wi
      refine WP.chk ⟨a1, wi'⟩ fun _ => ?_
      refine WP.bif (fun we => ?_) (fun we => ?_)
      · have e : atD s i = t := by simpa using we
        refine WP.ret ?_
        dsimp only
        symm; rw [decide_eq_true_eq, ← e]; exact atD_mem ⟨a1, wi'⟩
      · have e : ¬ atD s i = t := by simpa using we
        refine WP.chk ⟨a1, wi'⟩ fun _ => ?_
        have hno : decide (t ∈ s) = false := by
          rw [decide_eq_false_iff_not]
          intro hm
          obtain ⟨k, hk, hkt⟩ := memAtN hm
          by_cases h1 : k < i
          · have := a4 k hk h1; omega
          · by_cases h2 : k = i
            · subst h2; exact e hkt
            · have h3 := a5 i ⟨a1, wi'⟩ (Int.le_refl _)
              have h4 := asc_at hs.asc ⟨a1, wi'⟩ hk (by omega)
              omega
        unfold slices_isNaN_int_
        refine WP.call (WP.ret rfl) ?_
        rintro _ rfl
        refine WP.bif (fun w => by simp at w) (fun _ => WP.ret (by dsimp only; exact hno.symm))
    · have wi' : ¬ i < s.length := by simpa using wi
      refine WP.ret ?_
      dsimp only
      symm; rw [decide_eq_false_iff_not]
      intro hm
      obtain ⟨k, hk, hkt⟩ := memAtN hm
      have := a4 k hk (by have := hk.2; omega)
      omega
/-- Which rows are a graph of n slots. -/
structure GraphB (g : List (List Int)) (n : Int) : Prop where
  len : (g.length : Int) = n
  asc : ∀ x, inN x g.length → IsS (atD g x)
  irr : ∀ x, inN x g.length → x ∉ atD g x
  rng : ∀ x, inN x g.length → ∀ y ∈ atD g x, 0 ≤ y ∧ y < n
  sym : ∀ x, inN x g.length → ∀ y ∈ atD g x, x ∈ atD g y
theorem gcheck_sp (g : List (List Int)) (n : Int) (hl : g.length ≤ 9223372036854775807) (hr : ∀ r ∈ g, r.length ≤ 9223372036854775807) : WP (interfere_Check g n) (· = true ↔ GraphB g n) := by
  unfold interfere_Check
  refine WP.bif (fun wh => ?_) (fun wh => ?_)
  · refine WP.ret ⟨fun h => (by cases h), fun h => ?_⟩
    rw [Bool.not_eq_true', decide_eq_false_iff_not] at wh
    exact absurd h.len wh
  have hn : (g.length : Int) = n := by simpa using wh
  refine WP.loop (fun j => 0 ≤ j ∧ j ≤ g.length ∧ ∀ x, inN x g.length → x < j → IsS (atD g x) ∧ x ∉ atD g x ∧ ∀ y ∈ atD g x, 0 ≤ y ∧ y < n) (fun j => g.length - j.toNat) ⟨by omega, by omega, fun t ht h => by have := ht.1; omega⟩ ?_
  rintro again x ⟨a1, a2, a3⟩ ih
  refine WP.bif (fun wh => ?_) (fun wh => ?_) <;> (try simp only [wpH, ne_eq] at wh)
  · have hx : inN x g.length := ⟨a1, wh⟩
    have hrx := hr _ (atD_mem hx)
    refine WP.chk hx fun _ => ?_
    refine WP.call (bcheck_sp _ hrx) ?_
    rintro _ rfl
    refine WP.bif (fun wc => ?_) (fun wc => ?_)
    · refine WP.ret ⟨fun h => (by cases h), fun h => ?_⟩
      have := ascS_iff.2 (h.asc x hx)
      rw [this] at wc; cases wc
    have hS : IsS (atD g x) := ascS_iff.1 (by simpa using wc)
    have fin : (∀ y ∈ atD g x, y < n) → WP (M.call (slices_Contains___int_int_ (atD g x) x) fun x3 => M.bif x3 (M.ret false) (M.chk (okI (x + 1)) <| again (x + 1))) (· = true ↔ GraphB g n) := fun hy => by
      refine WP.call (contains_sp _ _ hrx) ?_
      rintro _ rfl
      refine WP.bif (fun wm => ?_) (fun wm => ?_)
      · refine WP.ret ⟨fun h => (by cases h), fun h => ?_⟩
        exact absurd (by simpa using wm) (h.irr x hx)
      · refine WP.chk ⟨by omega, by omega⟩ fun _ => ?_
        refine ih _ ⟨by omega, by omega, fun t h1 h2 => ?_⟩ (by omega)
        by_cases ht : t = x
        · subst ht; exact ⟨hS, by simpa using wm, fun y hym => ⟨(hS.rng y hym).1, hy y hym⟩⟩
        · exact a3 t h1 (by omega)
    refine WP.bif (fun w0 => ?_) (fun w0 => ?_)
    · have h0 : 0 < ((atD g x).length : Int) := by simpa using w0
      have hlast : inN (((atD g x).length : Int) - 1) (atD g x).length := ⟨by omega, by omega⟩
      refine WP.chk ⟨by omega, by omega⟩ fun _ => WP.chk hlast fun _ => ?_
      refine WP.bif (fun wl => ?_) (fun wl => ?_)
      · refine WP.ret ⟨fun h => (by cases h), fun h => ?_⟩
        have := (h.rng x hx _ (atD_mem hlast)).2
        have w : n ≤ atD (atD g x) (((atD g x).length : Int) - 1) := by simpa using wl
        omega
      · have w : ¬ n ≤ atD (atD g x) (((atD g x).length : Int) - 1) := by simpa using wl
        refine fin fun y hy => ?_
        obtain ⟨t, ht, rfl⟩ := memAtN hy
        by_cases hte : t = ((atD g x).length : Int) - 1
        · rw [hte]; omega
        · have := asc_at hS.asc ht hlast (by have := ht.2; omega); omega
    · have h0 : ¬ 0 < ((atD g x).length : Int) := by simpa using w0
      refine fin fun y hy => ?_
      have : atD g x = [] := List.eq_nil_of_length_eq_zero (by omega)
      rw [this] at hy; cases hy
  have hall : ∀ x, inN x g.length → IsS (atD g x) ∧ x ∉ atD g x ∧ ∀ y ∈ atD g x, 0 ≤ y ∧ y < n := fun x hx => a3 x hx (by have := hx.2; omega)
  clear a1 a2 a3 wh ih again
  refine WP.loop (fun j => 0 ≤ j ∧ j ≤ g.length ∧ ∀ x, inN x g.length → x < j → ∀ y ∈ atD g x, x ∈ atD g y) (fun j => g.length - j.toNat) ⟨by omega, by omega, fun t ht h => by have := ht.1; omega⟩ ?_
  rintro again x ⟨a1, a2, a3⟩ ih
  refine WP.bif (fun wh => ?_) (fun wh => ?_) <;> (try simp only [wpH, ne_eq] at wh)
  · have hx : inN x g.length := ⟨a1, wh⟩
    have hrx := hr _ (atD_mem hx)
    obtain ⟨hS, hirr, hrng⟩ := hall x hx
    refine WP.chk hx fun _ => ?_
    refine WP.loop (fun j => 0 ≤ j ∧ j ≤ (atD g x).length ∧ ∀ t, inN t (atD g x).length → t < j → x ∈ atD g (atD (atD g x) t)) (fun j => (atD g x).length - j.toNat) ⟨by omega, by omega, fun t ht h => by have := ht.1; omega⟩ ?_
    rintro again2 k ⟨b1, b2, b3⟩ ih2
    refine WP.bif (fun wk => ?_) (fun wk => ?_)
    · have wk' : k < (atD g x).length := by simpa using wk
      have hy := hrng _ (atD_mem (l := atD g x) ⟨b1, wk'⟩)
      have hyg : inN (atD (atD g x) k) g.length := ⟨hy.1, by omega⟩
      refine WP.chk ⟨b1, wk'⟩ fun _ => WP.chk hyg fun _ => ?_
      refine WP.call (bsearch_sp _ _ (hall _ hyg).1 (by have := (hall _ hyg).1.length; omega)) fun r hrr => ?_
      refine WP.bif (fun wb => ?_) (fun wb => ?_)
      · refine WP.ret ⟨fun h => (by cases h), fun h => ?_⟩
        have := h.sym x hx _ (atD_mem (l := atD g x) ⟨b1, wk'⟩)
        rw [hrr, decide_eq_true this] at wb; cases wb
      · refine WP.chk ⟨by omega, by omega⟩ fun _ => ?_
        refine ih2 _ ⟨by omega, by omega, fun t h1 h2 => ?_⟩ (by omega)
        by_cases ht : t = k
        · subst ht; rw [hrr] at wb; simpa using wb
        · exact b3 t h1 (by omega)
    · have wk' : ¬ k < (atD g x).length := by simpa using wk
      refine WP.chk ⟨by omega, by omega⟩ fun _ => ?_
      refine ih _ ⟨by omega, by omega, fun t h1 h2 => ?_⟩ (by omega)
      by_cases ht : t = x
      · subst ht
        intro y hy
        obtain ⟨q, hq, rfl⟩ := memAtN hy
        exact b3 q hq (by have := hq.2; omega)
      · exact a3 t h1 (by omega)
  · exact WP.ret ⟨fun _ => ⟨hn, fun x hx => (hall x hx).1, fun x hx => (hall x hx).2.1, fun x hx => (hall x hx).2.2, fun x hx => a3 x hx (by have := hx.2; omega)⟩, fun _ => rfl⟩
theorem vsize_sp (n : Int) : WP (value_Size n) (· = sizeB n) := by
  unfold value_Size sizeB
  refine WP.bif (fun w1 => ?_) (fun w1 => ?_)
  · have h1 : 1 ≤ n := by simpa using w1
    refine WP.bif (fun w2 => ?_) (fun w2 => ?_)
    · have h2 : n ≤ 16 := by simpa using w2
      refine WP.chk ⟨by omega, by omega⟩ fun _ => WP.ret ?_
      have : n = 1 ∨ n = 2 ∨ n = 3 ∨ n = 4 ∨ n = 5 ∨ n = 6 ∨ n = 7 ∨ n = 8 ∨ n = 9 ∨ n = 10 ∨ n = 11 ∨ n = 12 ∨ n = 13 ∨ n = 14 ∨ n = 15 ∨ n = 16 := by omega
      rcases this with h | h | h | h | h | h | h | h | h | h | h | h | h | h | h | h <;> subst h <;> decide +kernel
    · have h2 : ¬ n ≤ 16 := by simpa using w2
      exact WP.ret (by symm; rw [decide_eq_false_iff_not]; omega)
  · have h1 : ¬ 1 ≤ n := by simpa using w1
    exact WP.ret (by symm; rw [decide_eq_false_iff_not]; omega)
theorem slot1_sp (x : ASlot) : WP (extent_Slots_1 x) (· = !slotB x) := by
  unfold extent_Slots_1 slotB
  refine WP.call (vsize_sp _) ?_
  rintro _ rfl
  refine WP.bif (fun w => WP.ret (by rw [show sizeB x.Size = false by simpa using w]; rfl)) (fun w => ?_)
  have hs : sizeB x.Size = true := by simpa using w
  refine WP.call (epower_sp _) ?_
  rintro _ rfl
  exact WP.ret (by rw [hs]; rfl)
theorem eslots_sp (s : List ASlot) (hl : s.length ≤ 1000000000) : WP (extent_Slots s) (· = slotsE s) := by
  unfold extent_Slots slotsE
  refine WP.bif (fun w => WP.ret (by rw [if_pos (by simp at w; omega)])) (fun w => ?_)
  rw [if_neg (by simp at w; omega)]
  refine WP.call (R := (· = !s.all slotB)) ?_ ?_
  · unfold slices_ContainsFunc___api_Slot_api_Slot__of_extent_Slots_1
    refine WP.call (R := fun i => 0 ≤ i ↔ s.all slotB = false) ?_ fun i hi => WP.ret (by rw [Bool.eq_iff_iff, decide_eq_true_eq, hi]; simp)
    unfold slices_IndexFunc___api_Slot_api_Slot__of_extent_Slots_1
    refine WP.loop (fun j => 0 ≤ j ∧ j ≤ s.length ∧ ∀ t, inN t s.length → t < j → slotB (atD s t) = true) (fun j => s.length - j.toNat) ⟨by omega, by omega, fun t ht h => by have := ht.1; omega⟩ ?_
    rintro again k ⟨a1, a2, a3⟩ ih
    refine WP.bif (fun wh => ?_) (fun wh => ?_) <;> (try simp only [wpH, ne_eq] at wh)
    · refine WP.chk ⟨a1, wh⟩ fun _ => ?_
      refine WP.call (slot1_sp _) ?_
      rintro _ rfl
      refine WP.bif (fun hb => ?_) (fun hb => ?_)
      · refine WP.ret ⟨fun _ => ?_, fun _ => a1⟩
        rw [List.all_eq_false]
        exact ⟨_, atD_mem ⟨a1, wh⟩, by simpa using hb⟩
      · refine WP.chk ⟨by omega, by omega⟩ fun _ => ?_
        refine ih _ ⟨by omega, by omega, fun t h1 h2 => ?_⟩ (by omega)
        by_cases ht : t = k
        · subst ht; simpa using hb
        · exact a3 t h1 (by omega)
    · refine WP.ret ⟨fun h => by omega, fun h => ?_⟩
      rw [List.all_eq_false] at h
      obtain ⟨a, ha, hb⟩ := h
      obtain ⟨t, ht, rfl⟩ := List.mem_iff_getElem.1 ha
      have := a3 t ⟨by omega, by omega⟩ (by omega)
      rw [atD_nat ht] at this
      exact absurd this hb
  rintro _ rfl
  refine WP.bif (fun w => WP.ret (by rw [if_neg (by simpa using w)])) (fun w => WP.ret (by rw [if_pos (by simpa using w)]))
/-! ### The order of slots -/
def ltS (s : List ASlot) (x y : Int) : Bool := decide ((atD s y).Align < (atD s x).Align) || (decide ((atD s x).Align = (atD s y).Align) && decide ((atD s y).Size < (atD s x).Size))
/-- x is put into l, ahead of those that come behind it. -/
def InsP (lt : Int → Int → Bool) (x : Int) (l l' : List Int) : Prop :=
  ∃ k : Int, 0 ≤ k ∧ k ≤ l.length ∧ l' = l.take k.toNat ++ x :: l.drop k.toNat ∧ (∀ p, inN p l.length → k ≤ p → lt x (atD l p) = true) ∧ (0 < k → lt x (atD l (k - 1)) = false)
theorem InsP.unique {lt : Int → Int → Bool} {x : Int} {l a b : List Int} (h : InsP lt x l a) (h' : InsP lt x l b) : a = b := by
  obtain ⟨k, h1, h2, rfl, h3, h4⟩ := h
  obtain ⟨k', h1', h2', rfl, h3', h4'⟩ := h'
  have : k = k' := by
    rcases Int.lt_trichotomy k k' with h | h | h
    · have q1 := h4' (by omega)
      rw [h3 (k' - 1) ⟨by omega, by omega⟩ (by omega)] at q1; cases q1
    · exact h
    · have q1 := h4 (by omega)
      rw [h3' (k - 1) ⟨by omega, by omega⟩ (by omega)] at q1; cases q1
  rw [this]
def OrdP (s : List ASlot) : Nat → List Int → Prop
  | 0, l => l = []
  | n + 1, l => ∃ l0, OrdP s n l0 ∧ InsP (ltS s) n l0 l
theorem OrdP.unique {s : List ASlot} : ∀ {n : Nat} {a b : List Int}, OrdP s n a → OrdP s n b → a = b
  | 0, a, b, h, h' => by rw [show a = [] from h, show b = [] from h']
  | n + 1, a, b, ⟨l, h1, h2⟩, ⟨l', h3, h4⟩ => by
    obtain rfl := OrdP.unique h1 h3
    exact h2.unique h4
theorem InsP.perm {lt : Int → Int → Bool} {x : Int} {l a : List Int} (h : InsP lt x l a) : a.Perm (l ++ [x]) := by
  obtain ⟨k, h1, h2, rfl, h3, h4⟩ := h
  have : l ++ [x] = (l.take k.toNat ++ l.drop k.toNat) ++ [x] := by rw [List.take_append_drop]
  rw [this, List.append_assoc]
  refine List.Perm.append_left _ ?_
  exact (List.perm_append_comm (l₁ := [x]) (l₂ := l.drop k.toNat))
def rngL (n : Nat) : List Int := (List.range n).map fun k : Nat => (k : Int)
theorem rngL_succ (n : Nat) : rngL (n + 1) = rngL n ++ [(n : Int)] := by unfold rngL; rw [List.range_succ, List.map_append]; rfl
theorem rngL_length (n : Nat) : (rngL n).length = n := by simp [rngL]
theorem mem_rngL {n : Nat} {x : Int} : x ∈ rngL n ↔ 0 ≤ x ∧ x < n := by
  unfold rngL
  rw [List.mem_map]
  constructor
  · rintro ⟨k, h, rfl⟩; have := List.mem_range.1 h; omega
  · rintro ⟨h1, h2⟩; exact ⟨x.toNat, List.mem_range.2 (by omega), by omega⟩
theorem OrdP.perm {s : List ASlot} : ∀ {n : Nat} {a : List Int}, OrdP s n a → a.Perm (rngL n)
  | 0, a, h => by rw [show a = [] from h]; exact List.Perm.refl _
  | n + 1, a, ⟨l, h1, h2⟩ => by
    rw [rngL_succ]
    exact h2.perm.trans (h1.perm.append_right _)
theorem OrdP.length {s : List ASlot} {n : Nat} {a : List Int} (h : OrdP s n a) : a.length = n := by rw [h.perm.length_eq, rngL_length]
theorem OrdP.mem {s : List ASlot} {n : Nat} {a : List Int} (h : OrdP s n a) {x : Int} : x ∈ a ↔ 0 ≤ x ∧ x < n := by rw [h.perm.mem_iff, mem_rngL]
theorem before_sp (s : List ASlot) (x y : Int) : WP (r23_before (atD s x) (atD s y)) (· = ltS s x y) := by
  unfold r23_before ltS
  refine WP.bif (fun w => WP.ret (by rw [w]; rfl)) (fun w => ?_)
  refine WP.bif (fun w2 => WP.ret (by rw [w, w2]; simp)) (fun w2 => WP.ret (by rw [w, w2]; rfl))
theorem sliceD_take {α : Type} {l : List α} {k : Int} (h : 0 ≤ k) : sliceD l 0 k = l.take k.toNat := by unfold sliceD; simp
theorem sliceD_drop {α : Type} {l : List α} {k : Int} (h : 0 ≤ k ∧ k ≤ (l.length : Int)) : sliceD l k (l.length : Int) = l.drop k.toNat := by
  unfold sliceD
  rw [List.take_of_length_le]
  rw [List.length_drop]; omega
theorem rorder_sp (s : List ASlot) (hl : s.length ≤ 100000) : WP (r23_Order s) (OrdP s s.length) := by
  unfold r23_Order
  refine WP.loop (fun j => 0 ≤ j.1 ∧ j.1 ≤ s.length ∧ OrdP s j.1.toNat j.2) (fun j => s.length - j.1.toNat) ⟨by simp, by simp, rfl⟩ ?_
  rintro again ⟨i, out⟩ ⟨a1, a2, a3⟩ ih
  dsimp only at a1 a2 a3 ⊢
  have hlen := a3.length
  refine WP.bif (fun wh => ?_) (fun wh => ?_) <;> (try simp only [wpH, ne_eq] at wh)
  · refine WP.join (fun k => 0 ≤ k ∧ k ≤ out.length ∧ (∀ p, inN p out.length → k ≤ p → ltS s i (atD out p) = true) ∧ (0 < k → ltS s i (atD out (k - 1)) = false)) ?_ fun kk hkk => ?_
    · rintro k ⟨b1, b2, b3, b4⟩
      have hs1 : sliceD out 0 k = out.take k.toNat := sliceD_take b1
      have hs2 := sliceD_drop (l := out) ⟨b1, b2⟩
      rw [hs1, hs2]
      have ht : (out.take k.toNat).length ≤ out.length := by rw [List.length_take]; omega
      have hd : (out.drop k.toNat).length ≤ out.length := by rw [List.length_drop]; omega
      refine WP.chk ⟨by omega, b1, b2⟩ fun _ => WP.chk (by omega) fun _ => WP.chk (by simp only [List.length_cons, List.length_nil]; omega) fun _ => WP.chk ⟨b1, b2, by omega⟩ fun _ => WP.chk (by simp only [List.length_append, List.length_cons, List.length_nil]; omega) fun _ => WP.chk ⟨by omega, by omega⟩ fun _ => ?_
      refine ih _ ⟨by dsimp only; omega, by dsimp only; omega, ?_⟩ (by dsimp only; omega)
      dsimp only
      rw [show (i + 1).toNat = i.toNat + 1 by omega]
      refine ⟨out, a3, k, b1, b2, by rw [show ((i.toNat : Nat) : Int) = i by omega]; simp, fun p h1 h2 => ?_, fun h => ?_⟩
      · rw [show ((i.toNat : Nat) : Int) = i by omega]; exact b3 p h1 h2
      · rw [show ((i.toNat : Nat) : Int) = i by omega]; exact b4 h
    · refine WP.loop (fun k => 0 ≤ k ∧ k ≤ out.length ∧ ∀ p, inN p out.length → k ≤ p → ltS s i (atD out p) = true) (fun k => k.toNat) ⟨by omega, by omega, fun p h1 h2 => by have := h1.2; omega⟩ ?_
      rintro again2 k ⟨b1, b2, b3⟩ ih2
      refine WP.bif (fun wk => ?_) (fun wk => ?_)
      · have hk : 0 < k := by simpa using wk
        have hkn : inN (k - 1) out.length := ⟨by omega, by omega⟩
        have hm := (a3.mem).1 (atD_mem hkn)
        refine WP.chk ⟨a1, wh⟩ fun _ => WP.chk ⟨by omega, by omega⟩ fun _ => WP.chk hkn fun _ => WP.chk ⟨hm.1, by omega⟩ fun _ => ?_
        refine WP.call (before_sp s i _) ?_
        rintro _ rfl
        refine WP.bif (fun wl => ?_) (fun wl => hkk k ⟨b1, b2, b3, fun _ => wl⟩)
        refine WP.chk ⟨by omega, by omega⟩ fun _ => ?_
        refine ih2 _ ⟨by omega, by omega, fun p h1 h2 => ?_⟩ (by omega)
        by_cases hp : p = k - 1
        · rw [hp]; exact wl
        · exact b3 p h1 (by omega)
      · have hk : ¬ 0 < k := by simpa using wk
        exact hkk k ⟨b1, b2, b3, fun h => absurd h hk⟩
  · refine WP.ret ?_
    rw [show s.length = i.toNat by omega]; exact a3
theorem compare_sp (x y : Int) : WP (cmp_Compare_int_ x y) (· = if x < y then -1 else if y < x then 1 else 0) := by
  unfold cmp_Compare_int_ cmp_isNaN_int_
  refine WP.call (WP.ret rfl) ?_
  rintro _ rfl
  refine WP.call (WP.ret rfl) ?_
  rintro _ rfl
  refine WP.bif (fun w => by simp at w) (fun _ => ?_)
  refine WP.bif (fun w => by simp at w) (fun _ => ?_)
  refine WP.bif (fun w => WP.ret (by rw [if_pos (by simpa using w)])) (fun w => ?_)
  rw [if_neg (by simpa using w)]
  refine WP.bif (fun w => WP.ret (by rw [if_pos (by simpa using w)])) (fun w => WP.ret (by rw [if_neg (by simpa using w)]))
theorem or_sp (x y : Int) : WP (cmp_Or_int_ [x, y]) (· = if x = 0 then y else x) := by
  unfold cmp_Or_int_
  have e0 : atD [x, y] 0 = x := rfl
  have e1 : atD [x, y] 1 = y := rfl
  refine WP.loop (fun j => j = 0 ∨ (j = 1 ∧ x = 0) ∨ (j = 2 ∧ x = 0 ∧ y = 0)) (fun j => (2 - j).toNat) (.inl rfl) ?_
  rintro again j hj ih
  rcases hj with rfl | ⟨rfl, hx⟩ | ⟨rfl, hx, hy⟩
  · refine WP.bif (fun _ => ?_) (fun w => by simp at w)
    refine WP.chk ⟨by omega, by simp⟩ fun _ => ?_
    rw [e0]
    refine WP.bif (fun w => WP.ret (by rw [if_neg (by simpa using w)])) (fun w => ?_)
    refine WP.chk ⟨by omega, by omega⟩ fun _ => ?_
    exact ih 1 (.inr (.inl ⟨rfl, by simpa using w⟩)) (by decide)
  · refine WP.bif (fun _ => ?_) (fun w => by simp at w)
    refine WP.chk ⟨by omega, by simp⟩ fun _ => ?_
    rw [e1]
    refine WP.bif (fun w => WP.ret (by rw [if_pos hx])) (fun w => ?_)
    refine WP.chk ⟨by omega, by omega⟩ fun _ => ?_
    exact ih 2 (.inr (.inr ⟨rfl, hx, by simpa using w⟩)) (by decide)
  · refine WP.bif (fun w => by simp at w) (fun _ => WP.ret (by rw [if_pos hx, hy]))
theorem ocmp_sp (a b : Int) (s : List ASlot) (ha : inN a s.length) (hb : inN b s.length) : WP (colour_Order_1 a b s) fun r => r.2 = s ∧ (r.1 < 0 ↔ ltS s a b = true) := by
  unfold colour_Order_1
  refine WP.chk hb fun _ => WP.chk ha fun _ => ?_
  refine WP.call (compare_sp _ _) ?_
  rintro _ rfl
  refine WP.chk hb fun _ => WP.chk ha fun _ => ?_
  refine WP.call (compare_sp _ _) ?_
  rintro _ rfl
  refine WP.call (or_sp _ _) ?_
  rintro _ rfl
  refine WP.ret ⟨rfl, ?_⟩
  unfold ltS
  simp only [Bool.or_eq_true, Bool.and_eq_true, decide_eq_true_eq]
  repeat' split
  all_goals omega
theorem swap_mid (A : List Int) (y x : Int) (B : List Int) {j : Int} (hj : (A.length : Int) = j - 1) : setD (setD (A ++ y :: x :: B) j y) (j - 1) x = A ++ x :: y :: B := by
  unfold setD
  rw [show j.toNat = A.length + 1 by omega, show (j - 1).toNat = A.length by omega]
  rw [List.set_append_right _ _ (by omega), List.set_append_right _ _ (by omega)]
  simp
theorem atD_mid (A : List Int) (x : Int) (B : List Int) {j : Int} (hj : (A.length : Int) = j) : atD (A ++ x :: B) j = x := by
  unfold atD
  rw [show j.toNat = A.length by omega]
  simp [List.getD_eq_getElem?_getD]
theorem insort_sp (s : List ASlot) (n : Nat) (hn : n = s.length) (hl : n ≤ 100000) : WP (slices_insertionSortCmpFunc_int__of_colour_Order_1 (rngL n) 0 n s) fun r => r.2 = s ∧ OrdP s n r.1 := by
  unfold slices_insertionSortCmpFunc_int__of_colour_Order_1
  have hdrop : ∀ i : Nat, i < n → (rngL n).drop i = (i : Int) :: (rngL n).drop (i + 1) := fun i hi => by
    have h1 : i < (rngL n).length := by rw [rngL_length]; exact hi
    rw [List.drop_eq_getElem_cons h1]
    congr 1
    simp [rngL]
  refine WP.chk ⟨by omega, by omega⟩ fun _ => ?_
  refine WP.loop (fun j => j.2.2 = s ∧ 0 ≤ j.1 ∧ ((n = 0 ∧ j.2.1 = [] ∧ 1 ≤ j.1) ∨ (j.1 ≤ n ∧ ∃ out, OrdP s j.1.toNat out ∧ j.2.1 = out ++ (rngL n).drop j.1.toNat))) (fun j => n - j.1.toNat) ⟨rfl, by dsimp only; omega, ?_⟩ ?_
  · by_cases h0 : n = 0
    · left; rw [h0]; exact ⟨rfl, rfl, by dsimp only; omega⟩
    · right
      refine ⟨by dsimp only; omega, [0], ⟨[], rfl, 0, by omega, by simp, rfl, fun p h1 h2 => by have := h1.1; have := h1.2; simp at this; omega, fun h => by omega⟩, ?_⟩
      dsimp only
      have := hdrop 0 (by omega)
      rw [List.drop_zero] at this
      exact this
  rintro again ⟨i, data, cmp⟩ ⟨a1, a0, a2⟩ ih
  dsimp only at a0 a1 a2 ⊢
  subst a1
  refine WP.bif (fun wh => ?_) (fun wh => ?_)
  · have hi : i < n := by simpa using wh
    obtain ⟨-, out, a3, a4⟩ := a2.resolve_left fun h => by omega
    have hlen := a3.length
    have hrest := hdrop i.toNat (by omega)
    rw [show ((i.toNat : Nat) : Int) = i by omega] at hrest
    rw [hrest] at a4
    have hrl : ((rngL n).drop (i.toNat + 1)).length = n - (i.toNat + 1) := by rw [List.length_drop, rngL_length]
    obtain ⟨rest, hre⟩ : ∃ rest, rest = (rngL n).drop (i.toNat + 1) := ⟨_, rfl⟩
    rw [← hre] at a4 hrl
    -- the element is put into its place
    have done : ∀ (k : Int) (d : List Int), 0 ≤ k → k ≤ out.length → d = out.take k.toNat ++ i :: (out.drop k.toNat ++ rest) → (∀ p, inN p out.length → k ≤ p → ltS cmp i (atD out p) = true) → (0 < k → ltS cmp i (atD out (k - 1)) = false) → WP (M.chk (okI (i + 1)) <| again ((i + 1), d, cmp)) fun r => r.2 = cmp ∧ OrdP cmp n r.1 := fun k d b1 b2 b3 b4 b5 => by
      refine WP.chk ⟨by omega, by omega⟩ fun _ => ?_
      refine ih _ ⟨rfl, by dsimp only; omega, .inr ⟨by dsimp only; omega, out.take k.toNat ++ i :: out.drop k.toNat, ?_, ?_⟩⟩ (by dsimp only; omega)
      · dsimp only
        rw [show (i + 1).toNat = i.toNat + 1 by omega]
        exact ⟨out, a3, k, b1, b2, by rw [show ((i.toNat : Nat) : Int) = i by omega], fun p h1 h2 => by rw [show ((i.toNat : Nat) : Int) = i by omega]; exact b4 p h1 h2, fun h => by rw [show ((i.toNat : Nat) : Int) = i by omega]; exact b5 h⟩
      · dsimp only
        rw [b3, show (i + 1).toNat = i.toNat + 1 by omega, ← hre]
        simp
    refine WP.loop (fun j => j.2.2 = cmp ∧ 0 ≤ j.1 ∧ j.1 ≤ out.length ∧ j.2.1 = out.take j.1.toNat ++ i :: (out.drop j.1.toNat ++ rest) ∧ ∀ p, inN p out.length → j.1 ≤ p → ltS cmp i (atD out p) = true) (fun j => j.1.toNat) ⟨rfl, a0, by dsimp only; omega, ?_, fun p h1 h2 => by have := h1.2; dsimp only at h2; omega⟩ ?_
    · dsimp only
      rw [show i.toNat = out.length by omega, List.take_length, List.drop_length]; exact a4
    rintro again2 ⟨j, d, cmp2⟩ ⟨b0, b1, b2, b3, b4⟩ ih2
    dsimp only at b0 b1 b2 b3 b4 ⊢
    subst b0
    refine WP.bif (fun wj => ?_) (fun wj => ?_)
    · have hj : 0 < j := by simpa using wj
      have hjn : inN (j - 1) out.length := ⟨by omega, by omega⟩
      have htk : out.take j.toNat = out.take (j - 1).toNat ++ [atD out (j - 1)] := by
        have := take_atD hjn
        rw [show (j - 1 + 1).toNat = j.toNat by omega] at this
        exact this
      have hA : ((out.take (j - 1).toNat).length : Int) = j - 1 := by rw [List.length_take]; omega
      have hd : d = out.take (j - 1).toNat ++ atD out (j - 1) :: i :: (out.drop j.toNat ++ rest) := by rw [b3, htk, List.append_assoc]; rfl
      have hdl : d.length = out.length + 1 + rest.length := by rw [b3]; simp only [List.length_append, List.length_cons, List.length_take, List.length_drop]; omega
      have hdj : atD d j = i := by rw [b3]; exact atD_mid _ _ _ (by rw [List.length_take]; omega)
      have hdj1 : atD d (j - 1) = atD out (j - 1) := by rw [hd]; exact atD_mid _ _ _ hA
      have hm := (a3.mem).1 (atD_mem hjn)
      refine WP.chk ⟨by omega, by omega⟩ fun _ => WP.chk ⟨by omega, by omega⟩ fun _ => WP.chk ⟨by omega, by omega⟩ fun _ => ?_
      rw [hdj, hdj1]
      refine WP.call (ocmp_sp _ _ cmp2 ⟨a0, by omega⟩ ⟨hm.1, by omega⟩) fun x ⟨hx1, hx2⟩ => ?_
      rw [hx1]
      have hsl : ((setD d j (atD out (j - 1))).length : Int) = d.length := by unfold setD; rw [List.length_set]
      refine WP.bif (fun wl => ?_) (fun wl => ?_)
      · have hlt := hx2.1 (by simpa using wl)
        refine WP.chk ⟨by omega, by omega⟩ fun _ => WP.chk ⟨by omega, by omega⟩ fun _ => WP.chk ⟨by omega, by omega⟩ fun _ => WP.chk ⟨by omega, by omega⟩ fun _ => WP.chk ⟨by omega, by omega⟩ fun _ => WP.chk ⟨by omega, by omega⟩ fun _ => WP.chk ⟨by omega, by omega⟩ fun _ => ?_
        refine ih2 _ ⟨rfl, by dsimp only; omega, by dsimp only; omega, ?_, fun p h1 h2 => ?_⟩ (by dsimp only; omega)
        · dsimp only
          rw [hd, swap_mid _ _ _ _ hA]
          have hdr := drop_atD hjn
          rw [show (j - 1 + 1).toNat = j.toNat by omega] at hdr
          rw [hdr]; rfl
        · dsimp only at h2
          by_cases hp : p = j - 1
          · rw [hp]; exact hlt
          · exact b4 p h1 (by omega)
      · refine done j d b1 b2 b3 b4 fun _ => ?_
        have : ¬ x.1 < 0 := by simpa using wl
        cases hq : ltS cmp2 i (atD out (j - 1)) with
        | false => rfl
        | true => exact absurd (hx2.2 hq) this
    · have hj : ¬ 0 < j := by simpa using wj
      exact done j d b1 b2 b3 b4 fun h => absurd h hj
  · have hi : ¬ i < n := by simpa using wh
    refine WP.ret ⟨rfl, ?_⟩
    rcases a2 with ⟨h1, h2, _⟩ | ⟨h1, out, h2, h3⟩
    · rw [h2, h1]; rfl
    · have : i.toNat = n := by omega
      rw [this] at h2 h3
      rw [h3, List.drop_of_length_le (by rw [rngL_length]; omega), List.append_nil]
      exact h2
theorem eorder_sp (s : List ASlot) (hl : s.length ≤ 19) : WP (colour_Order s) (OrdP s s.length) := by
  unfold colour_Order
  refine WP.loop (fun j => 0 ≤ j.1 ∧ j.1 ≤ s.length ∧ j.2 = rngL j.1.toNat) (fun j => s.length - j.1.toNat) ⟨by simp, by simp, rfl⟩ ?_
  rintro again ⟨i, l⟩ ⟨a1, a2, a3⟩ ih
  dsimp only at a1 a2 a3 ⊢
  subst a3
  refine WP.bif (fun wh => ?_) (fun wh => ?_) <;> (try simp only [wpH, ne_eq] at wh)
  · refine WP.chk (by rw [rngL_length]; simp only [List.length_cons, List.length_nil]; omega) fun _ => WP.chk ⟨by omega, by omega⟩ fun _ => ?_
    refine ih _ ⟨by dsimp only; omega, by dsimp only; omega, ?_⟩ (by dsimp only; omega)
    dsimp only
    rw [show (i + 1).toNat = i.toNat + 1 by omega, rngL_succ, show ((i.toNat : Nat) : Int) = i by omega]
  · have hi : i.toNat = s.length := by omega
    rw [hi]
    unfold slices_SortStableFunc___int_int__of_colour_Order_1 slices_stableCmpFunc_int__of_colour_Order_1
    rw [rngL_length]
    refine WP.call (R := fun r => OrdP s s.length r.1) ?_ fun r hr => WP.ret hr
    refine WP.call (R := fun r => OrdP s s.length r.1) ?_ fun r hr => WP.ret hr
    refine WP.loop (fun j => j = (0, 20, rngL s.length, s)) (fun _ => 0) rfl ?_
    rintro again2 _ rfl ih2
    dsimp only
    refine WP.bif (fun w => by simp at w; omega) (fun _ => ?_)
    refine WP.call (insort_sp s s.length rfl (by omega)) fun r ⟨h1, h2⟩ => ?_
    refine WP.loop (fun j => j = (20, r.1, r.2)) (fun _ => 0) rfl ?_
    rintro again3 _ rfl ih3
    refine WP.bif (fun w => by simp at w; omega) (fun _ => WP.ret h2)
/-! ### Offsets, one after the other -/
theorem FreeAt.congr {l l' : List AInterval} (h : ∀ a, a ∈ l ↔ a ∈ l') {k n al x : Int} : FreeAt l k n al x ↔ FreeAt l' k n al x := ⟨fun q => q.perm fun a ha => (h a).2 ha, fun q => q.perm fun a ha => (h a).1 ha⟩
theorem FitR.congr {l l' : List AInterval} (h : ∀ a, a ∈ l ↔ a ∈ l') {k n al : Int} {r : Int × Int} (hr : FitR l k n al r) : FitR l' k n al r := by
  have hb : badArgs l k n al = badArgs l' k n al := by
    unfold badArgs
    congr 1
    rw [Bool.eq_iff_iff, List.any_eq_true, List.any_eq_true]
    exact ⟨fun ⟨a, h1, h2⟩ => ⟨a, (h a).1 h1, h2⟩, fun ⟨a, h1, h2⟩ => ⟨a, (h a).2 h1, h2⟩⟩
  unfold FitR FitP at hr ⊢
  rw [← hb]
  rcases hr with h1 | ⟨h1, ⟨z, h2, h3, h4, h5⟩ | ⟨h2, h3⟩⟩
  · exact .inl h1
  · exact .inr ⟨h1, .inl ⟨z, (FreeAt.congr h).1 h2, h3, fun y hy => h4 y ((FreeAt.congr h).2 hy), h5⟩⟩
  · exact .inr ⟨h1, .inr ⟨fun y hy => h2 y ((FreeAt.congr h).2 hy), h3⟩⟩
def ivS (s : List ASlot) (off : List Int) (j : Int) : AInterval := ⟨atD off j, (atD s j).Size⟩
def usedL (s : List ASlot) (g : List (List Int)) (off : List Int) (done : List Bool) (x : Int) : List AInterval := ((atD g x).filter fun j => atD done j).map (ivS s off)
theorem mem_usedL {s : List ASlot} {g : List (List Int)} {off : List Int} {done : List Bool} {x : Int} {a : AInterval} : a ∈ usedL s g off done x ↔ ∃ j, j ∈ atD g x ∧ atD done j = true ∧ a = ivS s off j := by
  unfold usedL
  simp only [List.mem_map, List.mem_filter]
  exact ⟨fun ⟨j, ⟨h1, h2⟩, h3⟩ => ⟨j, h1, h2, h3.symm⟩, fun ⟨j, h1, h2, h3⟩ => ⟨j, ⟨h1, h2⟩, h3.symm⟩⟩
def AsgR (s : List ASlot) (g : List (List Int)) (k : Int) : List Int → List Int → List Bool → List Int × Int → Prop
  | [], off, _, r => r = (off, 0)
  | x :: ord, off, done, r => ∃ f, FitR (usedL s g off done x) k (atD s x).Size (atD s x).Align f ∧ ((f.2 ≠ 0 ∧ r = ([], f.2)) ∨ (f.2 = 0 ∧ AsgR s g k ord (setD off x f.1) (setD done x true) r))
theorem AsgR.unique {s : List ASlot} {g : List (List Int)} {k : Int} : ∀ {ord : List Int} {off : List Int} {done : List Bool} {r r' : List Int × Int}, AsgR s g k ord off done r → AsgR s g k ord off done r' → r = r'
  | [], off, done, r, r', h, h' => by rw [show r = _ from h, show r' = _ from h']
  | x :: ord, off, done, r, r', ⟨f, h1, h2⟩, ⟨f', h1', h2'⟩ => by
    obtain rfl := h1.unique h1'
    rcases h2 with ⟨h3, rfl⟩ | ⟨h3, h4⟩ <;> rcases h2' with ⟨h3', rfl⟩ | ⟨h3', h4'⟩
    · rfl
    · exact absurd h3' h3
    · exact absurd h3 h3'
    · exact h4.unique h4'
/-- What Assign answers. -/
def AssignP (s : List ASlot) (g : List (List Int)) (k : Int) (r : List Int × Int) : Prop :=
  (slotsE s ≠ 0 ∧ r = ([], slotsE s)) ∨ (slotsE s = 0 ∧ ((¬ (GraphB g s.length ∧ 0 ≤ k ∧ k ≤ 2147483647) ∧ r = ([], 4)) ∨
    ((GraphB g s.length ∧ 0 ≤ k ∧ k ≤ 2147483647) ∧ ∃ ord, OrdP s s.length ord ∧ AsgR s g k ord (repD (s.length : Int)) (repD (s.length : Int)) r)))
theorem AssignP.unique {s : List ASlot} {g : List (List Int)} {k : Int} {r r' : List Int × Int} (h : AssignP s g k r) (h' : AssignP s g k r') : r = r' := by
  rcases h with ⟨h1, rfl⟩ | ⟨h1, ⟨h2, rfl⟩ | ⟨h2, o, h3, h4⟩⟩ <;> rcases h' with ⟨h1', rfl⟩ | ⟨h1', ⟨h2', rfl⟩ | ⟨h2', o', h3', h4'⟩⟩
  · rfl
  · exact absurd h1' h1
  · exact absurd h1' h1
  · exact absurd h1 h1'
  · rfl
  · exact absurd h2' h2
  · exact absurd h1 h1'
  · exact absurd h2 h2'
  · obtain rfl := h3.unique h3'
    exact h4.unique h4'
theorem interval_sp (s : List ASlot) (off : List Int) (j : Int) (h1 : inN j off.length) (h2 : inN j s.length) : WP (colour_interval s off j) (· = ivS s off j) := by
  unfold colour_interval
  exact WP.chk h1 fun _ => WP.chk h2 fun _ => WP.ret rfl
theorem easg_sp (s : List ASlot) (g : List (List Int)) (k : Int) (hl : s.length ≤ 19) (hg : g.length ≤ 9223372036854775807) (hr : ∀ r ∈ g, r.length ≤ 9223372036854775807) : WP (colour_Assign s g k) (AssignP s g k) := by
  unfold colour_Assign
  refine WP.call (eslots_sp s (by omega)) ?_
  rintro _ rfl
  refine WP.bif (fun w => WP.ret (.inl ⟨by simpa using w, rfl⟩)) (fun w => ?_)
  have hs0 : slotsE s = 0 := by simpa using w
  refine WP.call (gcheck_sp g _ hg hr) fun b hb => ?_
  refine WP.bif (fun w => WP.ret (.inr ⟨hs0, .inl ⟨fun h => ?_, rfl⟩⟩)) (fun w => ?_)
  · rw [hb.2 h.1] at w; cases w
  have hG := hb.1 (by simpa using w)
  refine WP.bif (fun w => WP.ret (.inr ⟨hs0, .inl ⟨fun h => by have := h.2; simp at w; omega, rfl⟩⟩)) (fun w => ?_)
  have hk0 : 0 ≤ k := by simpa using w
  refine WP.bif (fun w => WP.ret (.inr ⟨hs0, .inl ⟨fun h => by have := h.2; simp at w; omega, rfl⟩⟩)) (fun w => ?_)
  have hk1 : k ≤ 2147483647 := by simpa using w
  refine WP.chk ⟨by omega, by omega⟩ fun _ => WP.chk ⟨by omega, by omega⟩ fun _ => ?_
  refine WP.call (eorder_sp s hl) fun ord hord => ?_
  have hlen := hord.length
  have hgl := hG.len
  refine WP.loop (fun j => 0 ≤ j.1 ∧ j.1 ≤ ord.length ∧ j.2.1.length = s.length ∧ j.2.2.length = s.length ∧ ∀ r, AsgR s g k (ord.drop j.1.toNat) j.2.1 j.2.2 r → AsgR s g k ord (repD (s.length : Int)) (repD (s.length : Int)) r) (fun j => ord.length - j.1.toNat) ⟨by simp, by simp, by simp [length_repD], by simp [length_repD], fun r h => h⟩ ?_
  rintro again ⟨x4, off, done⟩ ⟨a1, a2, a3, a4, a5⟩ ih
  dsimp only at a1 a2 a3 a4 a5 ⊢
  refine WP.bif (fun wh => ?_) (fun wh => ?_) <;> (try simp only [wpH, ne_eq] at wh)
  · have hxm := (hord.mem).1 (atD_mem (l := ord) ⟨a1, wh⟩)
    have hdr := drop_atD (l := ord) ⟨a1, wh⟩
    rw [hdr] at a5
    refine WP.chk ⟨a1, wh⟩ fun _ => ?_
    generalize atD ord x4 = x at *
    have hxg : inN x g.length := ⟨hxm.1, by omega⟩
    have hrowl := (hG.asc x hxg).length
    refine WP.chk hxg fun _ => ?_
    refine WP.loop (fun j => 0 ≤ j.1 ∧ j.1 ≤ (atD g x).length ∧ (j.2.length : Int) ≤ j.1 ∧ ∀ a, a ∈ j.2 ↔ ∃ t, inN t (atD g x).length ∧ t < j.1 ∧ atD done (atD (atD g x) t) = true ∧ a = ivS s off (atD (atD g x) t)) (fun j => (atD g x).length - j.1.toNat) ⟨by simp, by simp, by simp, fun a => ⟨fun h => by simp at h, fun ⟨t, h1, h2, _⟩ => by have := h1.1; dsimp only at h2; omega⟩⟩ ?_
    rintro again2 ⟨t, used⟩ ⟨b1, b2, b3, b4⟩ ih2
    dsimp only at b1 b2 b3 b4 ⊢
    refine WP.bif (fun wt => ?_) (fun wt => ?_)
    · have wt' : t < (atD g x).length := by simpa using wt
      have hy := hG.rng x hxg _ (atD_mem (l := atD g x) ⟨b1, wt'⟩)
      refine WP.chk ⟨b1, wt'⟩ fun _ => WP.chk ⟨hy.1, by omega⟩ fun _ => ?_
      refine WP.bif (fun wd => ?_) (fun wd => ?_)
      · refine WP.call (interval_sp s off _ ⟨hy.1, by omega⟩ ⟨hy.1, hy.2⟩) ?_
        rintro _ rfl
        refine WP.chk (by simp only [List.length_cons, List.length_nil]; omega) fun _ => WP.chk ⟨by omega, by omega⟩ fun _ => ?_
        refine ih2 _ ⟨by dsimp only; omega, by dsimp only; omega, by dsimp only; simp only [List.length_append, List.length_cons, List.length_nil]; omega, fun a => ?_⟩ (by dsimp only; omega)
        dsimp only
        rw [List.mem_append, List.mem_singleton, b4]
        constructor
        · rintro (⟨q, h1, h2, h3, h4⟩ | rfl)
          · exact ⟨q, h1, by omega, h3, h4⟩
          · exact ⟨t, ⟨b1, wt'⟩, by omega, wd, rfl⟩
        · rintro ⟨q, h1, h2, h3, h4⟩
          by_cases hq : q = t
          · subst hq; exact .inr h4
          · exact .inl ⟨q, h1, by omega, h3, h4⟩
      · refine WP.chk ⟨by omega, by omega⟩ fun _ => ?_
        refine ih2 _ ⟨by dsimp only; omega, by dsimp only; omega, by dsimp only; omega, fun a => ?_⟩ (by dsimp only; omega)
        dsimp only
        rw [b4]
        constructor
        · rintro ⟨q, h1, h2, h3, h4⟩; exact ⟨q, h1, by omega, h3, h4⟩
        · rintro ⟨q, h1, h2, h3, h4⟩
          by_cases hq : q = t
          · subst hq; rw [h3] at wd; cases wd
          · exact ⟨q, h1, by omega, h3, h4⟩
    · have wt' : ¬ t < (atD g x).length := by simpa using wt
      have hused : ∀ a, a ∈ used ↔ a ∈ usedL s g off done x := fun a => by
        rw [b4, mem_usedL]
        constructor
        · rintro ⟨q, h1, h2, h3, h4⟩; exact ⟨_, atD_mem h1, h3, h4⟩
        · rintro ⟨j, h1, h2, h3⟩
          obtain ⟨q, hq, rfl⟩ := memAtN h1
          exact ⟨q, hq, by have := hq.2; omega, h2, h3⟩
      refine WP.chk ⟨hxm.1, by omega⟩ fun _ => WP.chk ⟨hxm.1, by omega⟩ fun _ => ?_
      refine WP.call (fit_sp' used k _ _ (by omega)) fun f hf => ?_
      have hf' := hf.congr hused
      refine WP.bif (fun wf => ?_) (fun wf => ?_)
      · exact WP.ret (.inr ⟨hs0, .inr ⟨⟨hG, hk0, hk1⟩, ord, hord, a5 _ ⟨f, hf', .inl ⟨by simpa using wf, rfl⟩⟩⟩⟩)
      · have hf0 : f.2 = 0 := by simpa using wf
        refine WP.chk ⟨hxm.1, by omega⟩ fun _ => WP.chk ⟨hxm.1, by omega⟩ fun _ => WP.chk ⟨by omega, by omega⟩ fun _ => ?_
        exact ih _ ⟨by dsimp only; omega, by dsimp only; omega, by dsimp only; rw [length_setD]; exact a3, by dsimp only; rw [length_setD]; exact a4, fun r h => a5 r ⟨f, hf', .inr ⟨hf0, h⟩⟩⟩ (by dsimp only; omega)
  · refine WP.ret (.inr ⟨hs0, .inr ⟨⟨hG, hk0, hk1⟩, ord, hord, a5 _ ?_⟩⟩)
    rw [List.drop_of_length_le (by omega)]; rfl
/-! ### The scene -/
theorem GraphB.nil (n : Nat) : GraphB (repD (n : Int)) n := by
  have hrep : ∀ k : Int, atD (repD (n : Int) : List (List Int)) k = [] := fun k => by
    unfold atD repD
    rw [List.getD_eq_getElem?_getD, List.getElem?_replicate]
    split <;> rfl
  refine ⟨by simp [length_repD], fun x _ => ?_, fun x _ => ?_, fun x _ y hy => ?_, fun x _ y hy => ?_⟩
  · rw [hrep]; exact IsS.nil
  · rw [hrep]; simp
  · rw [hrep] at hy; cases hy
  · rw [hrep] at hy; cases hy
theorem GraphB.add {g : List (List Int)} {n : Nat} (h : GraphB g n) (hn : n ≤ 500) {i k : Int} (hi : inN i n) (hk : inN k n) (hik : i ≠ k) : GraphB (setD (setD g i (addS (atD g i) k)) k (addS (atD g k) i)) n := by
  have hl := h.len
  have hat : ∀ x, inN x n → atD (setD (setD g i (addS (atD g i) k)) k (addS (atD g k) i)) x = if x = k then addS (atD g k) i else if x = i then addS (atD g i) k else atD g x := fun x hx => by
    rw [atD_setD ⟨hk.1, by rw [length_setD]; have := hk.2; omega⟩ hx.1, atD_setD ⟨hi.1, by have := hi.2; omega⟩ hx.1]
  have hmem : ∀ x, inN x n → ∀ y, y ∈ atD (setD (setD g i (addS (atD g i) k)) k (addS (atD g k) i)) x ↔ y ∈ atD g x ∨ (x = i ∧ y = k) ∨ (x = k ∧ y = i) := fun x hx y => by
    rw [hat x hx]
    have := hi.1; have := hi.2; have := hk.1; have := hk.2
    split
    · rename_i e; subst e
      rw [mem_addS]
      constructor
      · rintro (q | ⟨q, _⟩)
        · exact .inl q
        · exact .inr (.inr ⟨rfl, q⟩)
      · rintro (q | ⟨q, _⟩ | ⟨_, q⟩)
        · exact .inl q
        · exact absurd q.symm hik
        · exact .inr ⟨q, by omega, by omega⟩
    · rename_i e
      split
      · rename_i e2; subst e2
        rw [mem_addS]
        constructor
        · rintro (q | ⟨q, _⟩)
          · exact .inl q
          · exact .inr (.inl ⟨rfl, q⟩)
        · rintro (q | ⟨_, q⟩ | ⟨q, _⟩)
          · exact .inl q
          · exact .inr ⟨q, by omega, by omega⟩
          · exact absurd q e
      · rename_i e2
        exact ⟨.inl, fun q => q.elim id fun q => q.elim (fun q => absurd q.1 e2) (fun q => absurd q.1 e)⟩
  have hlen : ((setD (setD g i (addS (atD g i) k)) k (addS (atD g k) i)).length : Int) = n := by rw [length_setD, length_setD]; exact hl
  have hin : ∀ x, inN x (setD (setD g i (addS (atD g i) k)) k (addS (atD g k) i)).length → inN x n ∧ inN x g.length := fun x hx => ⟨⟨hx.1, by have := hx.2; omega⟩, ⟨hx.1, by have := hx.2; omega⟩⟩
  refine ⟨hlen, fun x hx => ?_, fun x hx => ?_, fun x hx y hy => ?_, fun x hx y hy => ?_⟩
  · rw [hat x (hin x hx).1]
    split
    · exact (h.asc k ⟨hk.1, by have := hk.2; omega⟩).add i
    · split
      · exact (h.asc i ⟨hi.1, by have := hi.2; omega⟩).add k
      · exact h.asc x (hin x hx).2
  · rw [hmem x (hin x hx).1]
    rintro (q | ⟨q1, q2⟩ | ⟨q1, q2⟩)
    · exact h.irr x (hin x hx).2 q
    · exact hik (q1.symm.trans q2)
    · exact hik (q2.symm.trans q1)
  · rcases (hmem x (hin x hx).1 y).1 hy with q | ⟨q1, q2⟩ | ⟨q1, q2⟩
    · exact h.rng x (hin x hx).2 y q
    · subst q2; exact hk
    · subst q2; exact hi
  · rcases (hmem x (hin x hx).1 y).1 hy with q | ⟨q1, q2⟩ | ⟨q1, q2⟩
    · exact (hmem y (h.rng x (hin x hx).2 y q) x).2 (.inl (h.sym x (hin x hx).2 y q))
    · subst q2; exact (hmem y hk x).2 (.inr (.inr ⟨rfl, q1⟩))
    · subst q2; exact (hmem y hi x).2 (.inr (.inl ⟨rfl, q1⟩))
theorem scene23_sp (cs : List Int) (h : ∀ z ∈ cs, 0 ≤ z ∧ z ≤ 255) : WP (law23_scene cs) fun r => (∀ x ∈ r.1, rightS x) ∧ r.1.length ≤ 9 ∧ GraphB r.2.1 r.1.length ∧ okC r.2.2 := by
  unfold law23_scene
  refine WP.call (new_sp cs 200 h (by omega)) fun c1 hc1 => ?_
  refine WP.call (slots_sp c1 9 hc1 (by omega)) fun x2 ⟨hc2, hl2, hs2⟩ => ?_
  refine WP.chk ⟨by omega, by omega⟩ fun _ => ?_
  refine WP.call (next_sp x2.2 20 hc2 (by omega)) fun x3 ⟨g1, g2, g3, _⟩ => ?_
  generalize x2.1 = s at *
  refine WP.loop (fun j => okC j.2.1 ∧ GraphB j.2.2 s.length ∧ j.1 ≤ 20) (fun j => j.1.toNat) ⟨g1, GraphB.nil s.length, by have := g3 (by omega); dsimp only; omega⟩ ?_
  rintro again ⟨n, c, g⟩ ⟨a1, a2, a3⟩ ih
  dsimp only at a1 a2 a3 ⊢
  have hgl := a2.len
  have fin : WP (M.ret (s, g, c)) fun r => (∀ x ∈ r.1, rightS x) ∧ r.1.length ≤ 9 ∧ GraphB r.2.1 r.1.length ∧ okC r.2.2 := WP.ret ⟨hs2, by dsimp only; omega, a2, a1⟩
  refine WP.bif (fun wh => ?_) (fun wh => fin)
  have hn : 0 < n := by simpa using wh
  refine WP.bif (fun w1 => ?_) (fun w1 => fin)
  have h1 : 1 < (s.length : Int) := by simpa using w1
  refine WP.call (next_sp c s.length a1 (by omega)) fun x4 ⟨k1, k2, k3, _⟩ => ?_
  refine WP.call (next_sp x4.2 s.length k1 (by omega)) fun x5 ⟨k4, k5, k6, _⟩ => ?_
  have k3' := k3 (by omega)
  have k6' := k6 (by omega)
  refine WP.bif (fun w => ?_) (fun w => ?_)
  · have hne : ¬ x4.1 = x5.1 := by simpa using w
    refine WP.chk ⟨k2, by omega⟩ fun _ => ?_
    have r1 := (a2.asc x4.1 ⟨k2, by omega⟩).length
    have r2 := (a2.asc x5.1 ⟨k5, by omega⟩).length
    refine WP.call (add_sp _ _ (by omega)) ?_
    rintro _ rfl
    refine WP.chk ⟨k5, by omega⟩ fun _ => ?_
    refine WP.call (add_sp _ _ (by omega)) ?_
    rintro _ rfl
    refine WP.chk ⟨k2, by omega⟩ fun _ => WP.chk ⟨k5, by rw [length_setD]; omega⟩ fun _ => WP.chk ⟨by omega, by omega⟩ fun _ => ?_
    exact ih _ ⟨k4, a2.add (by omega) ⟨k2, k3'⟩ ⟨k5, k6'⟩ hne, by dsimp only; omega⟩ (by dsimp only; omega)
  · refine WP.chk ⟨by omega, by omega⟩ fun _ => ?_
    exact ih _ ⟨k4, a2, by dsimp only; omega⟩ (by dsimp only; omega)
theorem awake23_sp : WP law23_awake (· = true) := by
  unfold law23_awake
  refine WP.call (easg_sp _ _ 0 (by simp) (by simp) (by simp)) fun r hr => ?_
  have hG : GraphB [[1], [0]] 2 := by
    have hc : ∀ x : Int, inN x 2 → x = 0 ∨ x = 1 := fun x hx => by have := hx.1; have := hx.2; omega
    have h0 : atD ([[1], [0]] : List (List Int)) 0 = [1] := rfl
    have h1 : atD ([[1], [0]] : List (List Int)) 1 = [0] := rfl
    refine ⟨rfl, fun x hx => ?_, fun x hx => ?_, fun x hx y hy => ?_, fun x hx y hy => ?_⟩ <;> rcases hc x hx with rfl | rfl
    · rw [h0]; exact ⟨by simp, by simp⟩
    · rw [h1]; exact ⟨by simp, by simp⟩
    · rw [h0]; simp
    · rw [h1]; simp
    · rw [h0] at hy; simp at hy; omega
    · rw [h1] at hy; simp at hy; omega
    · rw [h0] at hy; simp at hy; subst hy; rw [h1]; simp
    · rw [h1] at hy; simp at hy; subst hy; rw [h0]; simp
  have hs : slotsE [⟨8, 8⟩, ⟨8, 8⟩] = 0 := by decide +kernel
  have hO : OrdP [⟨8, 8⟩, ⟨8, 8⟩] 2 [0, 1] := by
    refine ⟨[0], ⟨[], rfl, 0, by omega, by simp, rfl, fun p h1 h2 => by have := h1.1; have := h1.2; simp at this; omega, fun h => by omega⟩, 1, by omega, by simp, rfl, fun p h1 h2 => by have := h1.2; simp at this; omega, fun _ => ?_⟩
    decide
  have hF0 : FitR (usedL [⟨8, 8⟩, ⟨8, 8⟩] [[1], [0]] [0, 0] [false, false] 0) 0 8 8 (0, 0) := by
    have hu : usedL [⟨8, 8⟩, ⟨8, 8⟩] [[1], [0]] [0, 0] [false, false] 0 = [] := by rfl
    rw [hu]
    exact .inr ⟨by decide +kernel, .inl ⟨0, ⟨⟨0, rfl⟩, by omega, by simp⟩, by omega, fun y hy => hy.ge, rfl⟩⟩
  have hF1 : FitR (usedL [⟨8, 8⟩, ⟨8, 8⟩] [[1], [0]] [0, 0] [true, false] 1) 0 8 8 (8, 0) := by
    have hu : usedL [⟨8, 8⟩, ⟨8, 8⟩] [[1], [0]] [0, 0] [true, false] 1 = [⟨0, 8⟩] := by rfl
    rw [hu]
    refine .inr ⟨by decide +kernel, .inl ⟨8, ⟨⟨1, rfl⟩, by omega, fun a ha => by rw [List.mem_singleton] at ha; subst ha; decide⟩, by omega, fun y hy => ?_, rfl⟩⟩
    have h1 := hy.ge
    obtain ⟨q, hq⟩ := hy.dvd
    have h2 := hy.out ⟨0, 8⟩ (by simp)
    simp only [meetB, decide_eq_false_iff_not] at h2
    omega
  have hA : AssignP [⟨8, 8⟩, ⟨8, 8⟩] [[1], [0]] 0 ([0, 8], 0) :=
    .inr ⟨hs, .inr ⟨⟨hG, by omega, by omega⟩, [0, 1], hO, (0, 0), hF0, .inr ⟨rfl, (8, 0), hF1, .inr ⟨rfl, rfl⟩⟩⟩⟩
  rw [hr.unique hA]
  refine WP.bif (fun _ => ?_) (fun w => by simp at w)
  refine WP.bif (fun _ => ?_) (fun w => by simp at w)
  refine WP.chk ⟨by omega, by simp⟩ fun _ => WP.ret (by rfl)
end Go.Proofs.Ythlpmklgokjdkaa.Q
