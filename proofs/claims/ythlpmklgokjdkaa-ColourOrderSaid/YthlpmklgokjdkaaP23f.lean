/- The order of any slots: the stable sort of the library, block by block. -/
import Derived.Test.YthlpmklgokjdkaaP23c
set_option linter.unusedVariables false
set_option linter.unusedSimpArgs false
namespace Go.Proofs.Ythlpmklgokjdkaa.Q
/-- x stands ahead of y: the order of slots, and of equal ones the order of their numbers. -/
def TO (s : List ASlot) (x y : Int) : Prop := (atD s y).Align < (atD s x).Align ∨ ((atD s x).Align = (atD s y).Align ∧ ((atD s y).Size < (atD s x).Size ∨ ((atD s x).Size = (atD s y).Size ∧ x < y)))
theorem TO.trans {s : List ASlot} {x y z : Int} (h : TO s x y) (h' : TO s y z) : TO s x z := by
  unfold TO at *
  omega
theorem TO.asymm {s : List ASlot} {x y : Int} (h : TO s x y) (h' : TO s y x) : False := by
  unfold TO at *
  omega
theorem TO.total {s : List ASlot} {x y : Int} (h : ¬ TO s x y) (hn : x ≠ y) : TO s y x := by
  unfold TO at *
  omega
theorem TO.lt_iff {s : List ASlot} {x y : Int} (h : x < y) : ltS s y x = true ↔ TO s y x := by
  unfold TO ltS
  simp only [Bool.or_eq_true, Bool.and_eq_true, decide_eq_true_eq]
  omega
/-- The elements of a part stand in their order. -/
def Sg (s : List ASlot) (d : List Int) (lo hi : Int) : Prop := ∀ p q, lo ≤ p → p < q → q < hi → TO s (atD d p) (atD d q)
theorem atD_swap {d : List Int} {i j p : Int} (hi : 0 ≤ i ∧ i < (d.length : Int)) (hj : 0 ≤ j ∧ j < (d.length : Int)) (hp : 0 ≤ p) : atD (setD (setD d i (atD d j)) j (atD d i)) p = if p = j then atD d i else if p = i then atD d j else atD d p := by
  rw [atD_setD (by rw [length_setD]; exact hj) hp, atD_setD hi hp]
/-- A part has been sorted; the rest is as it was. -/
structure MPost (s : List ASlot) (d : List Int) (a b : Int) (r : List Int × List ASlot) : Prop where
  cmp : r.2 = s
  len : r.1.length = d.length
  srt : Sg s r.1 a b
  img : ∀ p, a ≤ p → p < b → ∃ q, a ≤ q ∧ q < b ∧ atD r.1 p = atD d q
  old : ∀ p, 0 ≤ p → (p < a ∨ b ≤ p) → atD r.1 p = atD d p
theorem isort_sp (s : List ASlot) (d : List Int) (a b : Int) (ha : 0 ≤ a) (hab : a ≤ b) (hb : b ≤ d.length) (hl : d.length ≤ 1000) (hs : d.length ≤ s.length) (hid : ∀ p, a ≤ p → p < b → atD d p = p) :
    WP (slices_insertionSortCmpFunc_int__of_colour_Order_1 d a b s) (MPost s d a b) := by
  unfold slices_insertionSortCmpFunc_int__of_colour_Order_1
  refine WP.chk ⟨by omega, by omega⟩ fun _ => ?_
  refine WP.loop (fun j => j.2.2 = s ∧ a + 1 ≤ j.1 ∧ (j.1 ≤ b ∨ j.1 = a + 1) ∧ j.2.1.length = d.length ∧ Sg s j.2.1 a j.1 ∧ (∀ p, a ≤ p → p < b → a ≤ atD j.2.1 p ∧ atD j.2.1 p < b ∧ (p < j.1 → atD j.2.1 p < j.1) ∧ (j.1 ≤ p → atD j.2.1 p = p)) ∧ ∀ p, 0 ≤ p → (p < a ∨ b ≤ p) → atD j.2.1 p = atD d p) (fun j => (b - j.1).toNat)
    ⟨rfl, by dsimp only; omega, .inr rfl, rfl, fun p q h1 h2 h3 => by dsimp only at h3; omega, fun p h1 h2 => by dsimp only; rw [hid p h1 h2]; exact ⟨h1, h2, fun h => h, fun _ => rfl⟩, fun _ _ _ => rfl⟩ ?_
  rintro again ⟨i, d2, c⟩ ⟨e1, e2, e3, e4, e5, e6, e7⟩ ih
  dsimp only at e1 e2 e3 e4 e5 e6 e7 ⊢
  subst e1
  refine WP.bif (fun wh => ?_) (fun wh => ?_) <;> (try simp only [wpH, ne_eq] at wh)
  · have hi := e6 i (by omega) wh
    have hii := hi.2.2.2 (Int.le_refl _)
    -- the element has found its place
    have fin : ∀ (j : Int) (d3 : List Int), a ≤ j → j ≤ i → d3.length = d.length → (∀ p, 0 ≤ p → p < j → atD d3 p = atD d2 p) → atD d3 j = i → (∀ p, j < p → p ≤ i → atD d3 p = atD d2 (p - 1)) → (∀ p, i < p → atD d3 p = atD d2 p) →
        (∀ p, j ≤ p → p < i → TO c i (atD d2 p)) → (a < j → TO c (atD d2 (j - 1)) i) → WP (M.chk (okI (i + 1)) <| again ((i + 1), d3, c)) (MPost c d a b) := by
      intro j d3 b1 b2 b3 r1 r2 r3 r4 b4 b5
      refine WP.chk ⟨by omega, by omega⟩ fun _ => ih _ ⟨rfl, by dsimp only; omega, .inl (by dsimp only; omega), b3, ?_, ?_, ?_⟩ (by dsimp only; omega)
      · intro p q h1 h2 h3
        dsimp only at h3 ⊢
        by_cases q1 : q < j
        · rw [r1 p (by omega) (by omega), r1 q (by omega) q1]; exact e5 p q h1 h2 (by omega)
        by_cases q2 : q = j
        · subst q2
          rw [r1 p (by omega) h2, r2]
          by_cases q3 : p = q - 1
          · rw [q3]; exact b5 (by omega)
          · exact (e5 p (q - 1) h1 (by omega) (by omega)).trans (b5 (by omega))
        rw [r3 q (by omega) (by omega)]
        by_cases q3 : p < j
        · rw [r1 p (by omega) q3]; exact e5 p (q - 1) h1 (by omega) (by omega)
        by_cases q4 : p = j
        · subst q4; rw [r2]; exact b4 (q - 1) (by omega) (by omega)
        · rw [r3 p (by omega) (by omega)]; exact e5 (p - 1) (q - 1) (by omega) (by omega) (by omega)
      · intro p h1 h2
        dsimp only
        by_cases q1 : p < j
        · rw [r1 p (by omega) q1]
          have := e6 p h1 h2
          have := this.2.2.1 (by omega)
          refine ⟨by omega, by omega, fun _ => by omega, fun _ => by omega⟩
        by_cases q2 : p = j
        · rw [q2, r2]; exact ⟨by omega, by omega, fun _ => by omega, fun _ => by omega⟩
        by_cases q3 : p ≤ i
        · rw [r3 p (by omega) q3]
          have := e6 (p - 1) (by omega) (by omega)
          have := this.2.2.1 (by omega)
          refine ⟨by omega, by omega, fun _ => by omega, fun _ => by omega⟩
        · rw [r4 p (by omega)]
          have := e6 p h1 h2
          have := this.2.2.2 (by omega)
          refine ⟨by omega, by omega, fun _ => by omega, fun _ => this⟩
      · intro p h1 h2
        dsimp only
        by_cases q1 : p < a
        · rw [r1 p h1 (by omega)]; exact e7 p h1 h2
        · rw [r4 p (by omega)]; exact e7 p h1 h2
    refine WP.loop (fun j => j.2.2 = c ∧ a ≤ j.1 ∧ j.1 ≤ i ∧ j.2.1.length = d.length ∧ (∀ p, 0 ≤ p → p < j.1 → atD j.2.1 p = atD d2 p) ∧ atD j.2.1 j.1 = i ∧ (∀ p, j.1 < p → p ≤ i → atD j.2.1 p = atD d2 (p - 1)) ∧ (∀ p, i < p → atD j.2.1 p = atD d2 p) ∧ ∀ p, j.1 ≤ p → p < i → TO c i (atD d2 p)) (fun j => j.1.toNat)
      ⟨rfl, by dsimp only; omega, Int.le_refl _, e4, fun _ _ _ => rfl, hii, fun p h1 h2 => by dsimp only at h1; omega, fun _ _ => rfl, fun p h1 h2 => by dsimp only at h1; omega⟩ ?_
    rintro again2 ⟨j, d3, c2⟩ ⟨f1, f2, f3, f4, r1, r2, r3, r4, f5⟩ ih2
    dsimp only at f1 f2 f3 f4 f5 r1 r2 r3 r4 ⊢
    subst f1
    refine WP.bif (fun wj => ?_) (fun wj => ?_)
    · have hj : a < j := by simpa using wj
      have hj1 := r1 (j - 1) (by omega) (by omega)
      have hv := e6 (j - 1) (by omega) (by omega)
      have hv2 := hv.2.2.1 (by omega)
      refine WP.chk ⟨by omega, by omega⟩ fun _ => WP.chk ⟨by omega, by omega⟩ fun _ => WP.chk ⟨by omega, by omega⟩ fun _ => ?_
      rw [r2, hj1]
      refine WP.call (ocmp_sp _ _ c2 ⟨by omega, by omega⟩ ⟨by omega, by omega⟩) fun x ⟨hx1, hx2⟩ => ?_
      rw [TO.lt_iff hv2] at hx2
      rw [hx1]
      have hsw := fun (p : Int) (hp : 0 ≤ p) => atD_swap (d := d3) (i := j) (j := j - 1) (p := p) ⟨by omega, by omega⟩ ⟨by omega, by omega⟩ hp
      rw [r2, hj1] at hsw
      refine WP.bif (fun wl => ?_) (fun wl => ?_)
      · have hlt := hx2.1 (by simpa using wl)
        refine WP.chk ⟨by omega, by omega⟩ fun _ => WP.chk ⟨by omega, by omega⟩ fun _ => WP.chk ⟨by omega, by omega⟩ fun _ => WP.chk ⟨by omega, by omega⟩ fun _ => WP.chk ⟨by omega, by omega⟩ fun _ => WP.chk ⟨by omega, by rw [length_setD]; omega⟩ fun _ => WP.chk ⟨by omega, by omega⟩ fun _ => ?_
        refine ih2 _ ⟨rfl, by dsimp only; omega, by dsimp only; omega, by dsimp only; rw [length_setD, length_setD]; exact f4, ?_, ?_, ?_, ?_, ?_⟩ (by dsimp only; omega)
        · intro p h1 h2
          dsimp only at h2 ⊢
          rw [hsw p h1, if_neg (by omega), if_neg (by omega)]; exact r1 p h1 (by omega)
        · dsimp only
          rw [hsw _ (by omega), if_pos rfl]
        · intro p h1 h2
          dsimp only at h1 ⊢
          rw [hsw p (by omega), if_neg (by omega)]
          by_cases hp : p = j
          · rw [if_pos hp, hp]
          · rw [if_neg hp]; exact r3 p (by omega) h2
        · intro p h1
          dsimp only
          rw [hsw p (by omega), if_neg (by omega), if_neg (by omega)]; exact r4 p h1
        · intro p h1 h2
          dsimp only at h1
          by_cases hp : p = j - 1
          · rw [hp]; exact hlt
          · exact f5 p (by omega) h2
      · refine fin j d3 f2 f3 f4 r1 r2 r3 r4 f5 fun _ => ?_
        have hnl : ¬ x.1 < 0 := by simpa using wl
        exact TO.total (fun h => hnl (hx2.2 h)) (by omega)
    · have hj : ¬ a < j := by simpa using wj
      exact fin j d3 f2 f3 f4 r1 r2 r3 r4 f5 fun h => absurd h hj
  · refine WP.ret ⟨rfl, e4, fun p q h1 h2 h3 => e5 p q h1 h2 (by omega), fun p h1 h2 => ?_, e7⟩
    have := e6 p h1 h2
    exact ⟨atD d2 p, this.1, this.2.1, (hid _ this.1 this.2.1).symm⟩
theorem swr_sp (s : List ASlot) (d : List Int) (a b n : Int) (h : 0 ≤ a ∧ 0 ≤ n ∧ a + n ≤ b ∧ b + n ≤ d.length ∧ d.length ≤ 1000) :
    WP (slices_swapRangeCmpFunc_int__of_colour_Order_1 d a b n s) fun r => r.2 = s ∧ r.1.length = d.length ∧ ∀ p, 0 ≤ p → atD r.1 p = if a ≤ p ∧ p < a + n then atD d (p - a + b) else if b ≤ p ∧ p < b + n then atD d (p - b + a) else atD d p := by
  unfold slices_swapRangeCmpFunc_int__of_colour_Order_1
  refine WP.loop (fun j => 0 ≤ j.1 ∧ j.1 ≤ n ∧ j.2.length = d.length ∧ ∀ p, 0 ≤ p → atD j.2 p = if a ≤ p ∧ p < a + j.1 then atD d (p - a + b) else if b ≤ p ∧ p < b + j.1 then atD d (p - b + a) else atD d p) (fun j => (n - j.1).toNat)
    ⟨Int.le_refl _, by dsimp only; omega, rfl, fun p hp => by dsimp only; rw [if_neg (by omega), if_neg (by omega)]⟩ ?_
  rintro again ⟨i, d2⟩ ⟨e1, e2, e3, e4⟩ ih
  dsimp only at e1 e2 e3 e4 ⊢
  refine WP.bif (fun wh => ?_) (fun wh => ?_) <;> (try simp only [wpH, ne_eq] at wh)
  · have ea : atD d2 (a + i) = atD d (a + i) := by rw [e4 _ (by omega), if_neg (by omega), if_neg (by omega)]
    have eb : atD d2 (b + i) = atD d (b + i) := by rw [e4 _ (by omega), if_neg (by omega), if_neg (by omega)]
    have hsw := fun (p : Int) (hp : 0 ≤ p) => atD_swap (d := d2) (i := a + i) (j := b + i) (p := p) ⟨by omega, by omega⟩ ⟨by omega, by omega⟩ hp
    rw [ea, eb] at hsw ⊢
    refine WP.chk ⟨by omega, by omega⟩ fun _ => WP.chk ⟨by omega, by omega⟩ fun _ => WP.chk ⟨by omega, by omega⟩ fun _ => WP.chk ⟨by omega, by omega⟩ fun _ => WP.chk ⟨by omega, by omega⟩ fun _ => WP.chk ⟨by omega, by omega⟩ fun _ => WP.chk ⟨by omega, by omega⟩ fun _ => WP.chk ⟨by omega, by rw [length_setD]; omega⟩ fun _ => WP.chk ⟨by omega, by omega⟩ fun _ => ?_
    refine ih _ ⟨by dsimp only; omega, by dsimp only; omega, by dsimp only; rw [length_setD, length_setD]; exact e3, fun p hp => ?_⟩ (by dsimp only; omega)
    dsimp only
    rw [hsw p hp, e4 p hp]
    (repeat' split) <;> first | (exfalso; omega) | rfl | (congr 1; omega)
  · have hin : i = n := by omega
    subst hin
    exact WP.ret ⟨rfl, e3, e4⟩
/-- Two parts that lie side by side, changed over. -/
def rotA (d : List Int) (x m y p : Int) : Int := if x ≤ p ∧ p < x + (y - m) then atD d (p + (m - x)) else if x + (y - m) ≤ p ∧ p < y then atD d (p - (y - m)) else atD d p
theorem rot_sp (s : List ASlot) (d : List Int) (a m b : Int) (h : 0 ≤ a ∧ a < m ∧ m < b ∧ b ≤ d.length ∧ d.length ≤ 1000) :
    WP (slices_rotateCmpFunc_int__of_colour_Order_1 d a m b s) fun r => r.2 = s ∧ r.1.length = d.length ∧ ∀ p, 0 ≤ p → atD r.1 p = rotA d a m b p := by
  unfold slices_rotateCmpFunc_int__of_colour_Order_1
  refine WP.chk ⟨by omega, by omega⟩ fun _ => WP.chk ⟨by omega, by omega⟩ fun _ => ?_
  refine WP.loop (fun j => j.2.2.2 = s ∧ 0 < j.1 ∧ 0 < j.2.1 ∧ a ≤ m - j.1 ∧ m + j.2.1 ≤ b ∧ j.2.2.1.length = d.length ∧ ∀ p, 0 ≤ p → rotA j.2.2.1 (m - j.1) m (m + j.2.1) p = rotA d a m b p) (fun j => (j.1 + j.2.1).toNat)
    ⟨rfl, by dsimp only; omega, by dsimp only; omega, by dsimp only; omega, by dsimp only; omega, rfl, fun p _ => by dsimp only; rw [show m - (m - a) = a by omega, show m + (b - m) = b by omega]⟩ ?_
  rintro again ⟨i, j, d2, c⟩ ⟨e1, e2, e3, e4, e5, e6, e7⟩ ih
  dsimp only at e1 e2 e3 e4 e5 e6 e7 ⊢
  subst e1
  refine WP.bif (fun wh => ?_) (fun wh => ?_)
  · have hij : ¬ i = j := by simpa using wh
    refine WP.bif (fun wl => ?_) (fun wl => ?_) <;> (try simp only [wpH, ne_eq] at wh)
    · refine WP.chk ⟨by omega, by omega⟩ fun _ => ?_
      have wl' : j < i := by simpa using wl
      refine WP.call (swr_sp c d2 (m - i) m j ⟨by omega, by omega, by omega, by omega, by omega⟩) fun x ⟨x1, x2, x3⟩ => ?_
      refine WP.chk ⟨by omega, by omega⟩ fun _ => ?_
      refine ih _ ⟨x1, by dsimp only; omega, by dsimp only; omega, by dsimp only; omega, by dsimp only; omega, by dsimp only; omega, fun p hp => ?_⟩ (by dsimp only; omega)
      dsimp only
      rw [← e7 p hp]
      unfold rotA
      (repeat' split) <;> first | (exfalso; omega) | (rw [x3 _ (by omega)]; (repeat' split) <;> first | (exfalso; omega) | rfl | (congr 1; omega))
    · have wl' : ¬ j < i := by simpa using wl
      refine WP.chk ⟨by omega, by omega⟩ fun _ => WP.chk ⟨by omega, by omega⟩ fun _ => WP.chk ⟨by omega, by omega⟩ fun _ => ?_
      refine WP.call (swr_sp c d2 (m - i) (m + j - i) i ⟨by omega, by omega, by omega, by omega, by omega⟩) fun x ⟨x1, x2, x3⟩ => ?_
      refine WP.chk ⟨by omega, by omega⟩ fun _ => ?_
      refine ih _ ⟨x1, by dsimp only; omega, by dsimp only; omega, by dsimp only; omega, by dsimp only; omega, by dsimp only; omega, fun p hp => ?_⟩ (by dsimp only; omega)
      dsimp only
      rw [← e7 p hp]
      unfold rotA
      (repeat' split) <;> first | (exfalso; omega) | (rw [x3 _ (by omega)]; (repeat' split) <;> first | (exfalso; omega) | rfl | (congr 1; omega))
  · have hij : i = j := by simpa using wh
    subst hij
    refine WP.chk ⟨by omega, by omega⟩ fun _ => ?_
    refine WP.call (swr_sp c d2 (m - i) m i ⟨by omega, by omega, by omega, by omega, by omega⟩) fun x ⟨x1, x2, x3⟩ => WP.ret ⟨x1, by dsimp only; omega, fun p hp => ?_⟩
    dsimp only
    rw [← e7 p hp, x3 p hp]
    unfold rotA
    (repeat' split) <;> first | (exfalso; omega) | rfl | (congr 1; omega)
/-- Two parts side by side, each in order, whose elements are those of two parts of the numbers. -/
structure MPre (s : List ASlot) (d : List Int) (a m b : Int) : Prop where
  bnd : 0 ≤ a ∧ a < m ∧ m < b ∧ b ≤ d.length ∧ d.length ≤ 1000
  s1 : Sg s d a m
  s2 : Sg s d m b
  low : ∀ p q, a ≤ p → p < m → m ≤ q → q < b → atD d p < atD d q
  rng : ∀ p, a ≤ p → p < b → inN (atD d p) s.length
theorem half_eq (x : Int) : x / 2 ^ (1 : Int).toNat = x / 2 := rfl
/-- What two sorted halves make. -/
theorem MPost.glue {s : List ASlot} {d d4 : List Int} {a mid b : Int} {r5 r6 : List Int × List ASlot} (hb : 0 ≤ a ∧ a ≤ mid ∧ mid ≤ b) (hlen : d4.length = d.length)
    (himg : ∀ p, a ≤ p → p < b → ∃ q, a ≤ q ∧ q < b ∧ atD d4 p = atD d q) (hold : ∀ p, 0 ≤ p → (p < a ∨ b ≤ p) → atD d4 p = atD d p)
    (hx : ∀ p q, a ≤ p → p < mid → mid ≤ q → q < b → TO s (atD d4 p) (atD d4 q))
    (h5 : MPost s d4 a mid r5) (h6 : MPost s r5.1 mid b r6) : MPost s d a b r6 := by
  have j1 : ∀ p, a ≤ p → p < mid → ∃ q, a ≤ q ∧ q < mid ∧ atD r6.1 p = atD d4 q := fun p h1 h2 => by
    rw [h6.old p (by omega) (.inl h2)]; exact h5.img p h1 h2
  have j2 : ∀ p, mid ≤ p → p < b → ∃ q, mid ≤ q ∧ q < b ∧ atD r6.1 p = atD d4 q := fun p h1 h2 => by
    obtain ⟨q, q1, q2, q3⟩ := h6.img p h1 h2
    exact ⟨q, q1, q2, by rw [q3]; exact h5.old q (by omega) (.inr q1)⟩
  refine ⟨h6.cmp, by rw [h6.len, h5.len, hlen], fun p q h1 h2 h3 => ?_, fun p h1 h2 => ?_, fun p h1 h2 => ?_⟩
  · by_cases q1 : q < mid
    · rw [h6.old p (by omega) (.inl (by omega)), h6.old q (by omega) (.inl q1)]; exact h5.srt p q h1 h2 q1
    by_cases q2 : p < mid
    · obtain ⟨u, u1, u2, u3⟩ := j1 p h1 q2
      obtain ⟨v, v1, v2, v3⟩ := j2 q (by omega) h3
      rw [u3, v3]; exact hx u v u1 u2 v1 v2
    · exact h6.srt p q (by omega) h2 h3
  · by_cases q1 : p < mid
    · obtain ⟨u, u1, u2, u3⟩ := j1 p h1 q1
      rw [u3]; exact himg u u1 (by omega)
    · obtain ⟨u, u1, u2, u3⟩ := j2 p (by omega) h2
      rw [u3]; exact himg u (by omega) u2
  · rw [h6.old p h1 (by omega), h5.old p h1 (by omega)]; exact hold p h1 h2
theorem smb_sp (self : List Int → Int → Int → Int → List ASlot → M (List Int × List ASlot)) (s : List ASlot) (d : List Int) (a m b : Int) (h : MPre s d a m b)
    (ih : ∀ d' a' m' b', b' - a' < b - a → MPre s d' a' m' b' → WP (self d' a' m' b' s) (MPost s d' a' b')) :
    WP (slices_symMergeCmpFunc_int__of_colour_Order_1_body self d a m b s) (MPost s d a b) := by
  obtain ⟨⟨c1, c2, c3, c4, c5⟩, s1, s2, low, rng⟩ := h
  unfold slices_symMergeCmpFunc_int__of_colour_Order_1_body
  simp only [half_eq]
  refine WP.chk ⟨by omega, by omega⟩ fun _ => ?_
  refine WP.bif (fun w1 => ?_) (fun w1 => ?_)
  · have hm : m = a + 1 := by have : m - a = 1 := by simpa using w1
                              omega
    subst hm
    refine WP.loop (fun j => j.2.2 = s ∧ a + 1 ≤ j.1 ∧ j.1 ≤ j.2.1 ∧ j.2.1 ≤ b ∧ (∀ q, a + 1 ≤ q → q < j.1 → TO s (atD d q) (atD d a)) ∧ ∀ q, j.2.1 ≤ q → q < b → TO s (atD d a) (atD d q)) (fun j => (j.2.1 - j.1).toNat)
      ⟨rfl, Int.le_refl _, by dsimp only; omega, Int.le_refl _, fun q h1 h2 => by dsimp only at h2; omega, fun q h1 h2 => by dsimp only at h1; omega⟩ ?_
    rintro again ⟨i, j, c⟩ ⟨e1, e2, e3, e4, e5, e6⟩ ih1
    dsimp only at e1 e2 e3 e4 e5 e6 ⊢
    subst e1
    refine WP.bif (fun wh => ?_) (fun wh => ?_) <;> (try simp only [wpH, ne_eq] at wh)
    · obtain ⟨t, ht⟩ : ∃ t, t = (i + j) / 2 := ⟨_, rfl⟩
      have t1 : i ≤ t ∧ t < j := by omega
      rw [← ht]
      have hlo := low a t (Int.le_refl _) (by omega) (by omega) (by omega)
      refine WP.chk ⟨by omega, by omega⟩ fun _ => WP.chk ⟨by omega, by omega⟩ fun _ => WP.chk ⟨by omega, by omega⟩ fun _ => WP.chk ⟨by omega, by omega⟩ fun _ => WP.chk ⟨by omega, by omega⟩ fun _ => WP.chk ⟨by omega, by omega⟩ fun _ => ?_
      refine WP.call (ocmp_sp _ _ c (rng t (by omega) (by omega)) (rng a (by omega) (by omega))) fun x ⟨hx1, hx2⟩ => ?_
      rw [TO.lt_iff hlo] at hx2
      rw [hx1]
      refine WP.bif (fun wl => ?_) (fun wl => ?_)
      · have hlt := hx2.1 (by simpa using wl)
        refine WP.chk ⟨by omega, by omega⟩ fun _ => ?_
        refine ih1 _ ⟨rfl, by dsimp only; omega, by dsimp only; omega, e4, fun q h1 h2 => ?_, e6⟩ (by dsimp only; omega)
        dsimp only at h2
        by_cases hq : q = t
        · rw [hq]; exact hlt
        · exact (s2 q t h1 (by omega) (by omega)).trans hlt
      · have hnl : ¬ x.1 < 0 := by simpa using wl
        have hlt : TO c (atD d a) (atD d t) := TO.total (fun h => hnl (hx2.2 h)) (by omega)
        refine ih1 _ ⟨rfl, e2, by dsimp only; omega, by dsimp only; omega, e5, fun q h1 h2 => ?_⟩ (by dsimp only; omega)
        dsimp only at h1
        by_cases hq : q = t
        · rw [hq]; exact hlt
        · exact hlt.trans (s2 t q (by omega) (by omega) h2)
    · have hij : i = j := by omega
      subst hij
      refine WP.loop (fun k => a ≤ k.1 ∧ k.1 ≤ i - 1 ∧ k.2.length = d.length ∧ (∀ p, a ≤ p → p < k.1 → atD k.2 p = atD d (p + 1)) ∧ atD k.2 k.1 = atD d a ∧ ∀ p, 0 ≤ p → (p < a ∨ k.1 < p) → atD k.2 p = atD d p) (fun k => (i - k.1).toNat)
        ⟨Int.le_refl _, by dsimp only; omega, rfl, fun p h1 h2 => by dsimp only at h2; omega, rfl, fun _ _ _ => rfl⟩ ?_
      rintro again2 ⟨k, d2⟩ ⟨f1, f2, f3, r1, r2, r3⟩ ih2
      dsimp only at f1 f2 f3 r1 r2 r3 ⊢
      refine WP.chk ⟨by omega, by omega⟩ fun _ => ?_
      refine WP.bif (fun wk => ?_) (fun wk => ?_)
      · have hk : k < i - 1 := by simpa using wk
        have hsw := fun (p : Int) (hp : 0 ≤ p) => atD_swap (d := d2) (i := k) (j := k + 1) (p := p) ⟨by omega, by omega⟩ ⟨by omega, by omega⟩ hp
        have hk1 := r3 (k + 1) (by omega) (by omega)
        rw [r2, hk1] at hsw ⊢
        refine WP.chk ⟨by omega, by omega⟩ fun _ => WP.chk ⟨by omega, by omega⟩ fun _ => WP.chk ⟨by omega, by omega⟩ fun _ => WP.chk ⟨by omega, by omega⟩ fun _ => WP.chk ⟨by omega, by omega⟩ fun _ => WP.chk ⟨by omega, by rw [length_setD]; omega⟩ fun _ => WP.chk ⟨by omega, by omega⟩ fun _ => ?_
        refine ih2 _ ⟨by dsimp only; omega, by dsimp only; omega, by dsimp only; rw [length_setD, length_setD]; exact f3, fun p h1 h2 => ?_, ?_, fun p h1 h2 => ?_⟩ (by dsimp only; omega)
        · dsimp only at h2 ⊢
          rw [hsw p (by omega), if_neg (by omega)]
          by_cases hp : p = k
          · rw [if_pos hp, hp]
          · rw [if_neg hp]; exact r1 p h1 (by omega)
        · dsimp only
          rw [hsw _ (by omega), if_pos rfl]
        · dsimp only at h2 ⊢
          rw [hsw p h1, if_neg (by omega), if_neg (by omega)]; exact r3 p h1 (by omega)
      · have hk : ¬ k < i - 1 := by simpa using wk
        have hki : k = i - 1 := by omega
        refine WP.ret ⟨rfl, f3, fun p q h1 h2 h3 => ?_, fun p h1 h2 => ?_, fun p h1 h2 => r3 p h1 (by omega)⟩
        · dsimp only
          by_cases q1 : p < k
          · rw [r1 p h1 q1]
            by_cases q2 : q < k
            · rw [r1 q (by omega) q2]; exact s2 _ _ (by omega) (by omega) (by omega)
            by_cases q3 : q = k
            · rw [q3, r2]; exact e5 _ (by omega) (by omega)
            · rw [r3 q (by omega) (by omega)]; exact s2 _ _ (by omega) (by omega) (by omega)
          by_cases q2 : p = k
          · rw [q2, r2, r3 q (by omega) (by omega)]; exact e6 q (by omega) h3
          · rw [r3 p (by omega) (by omega), r3 q (by omega) (by omega)]; exact s2 _ _ (by omega) h2 h3
        · dsimp only
          by_cases q1 : p < k
          · exact ⟨p + 1, by omega, by omega, r1 p h1 q1⟩
          by_cases q2 : p = k
          · exact ⟨a, by omega, by omega, by rw [q2]; exact r2⟩
          · exact ⟨p, h1, h2, r3 p (by omega) (by omega)⟩
  have w1' : ¬ m - a = 1 := by simpa using w1
  refine WP.chk ⟨by omega, by omega⟩ fun _ => ?_
  refine WP.bif (fun w2 => ?_) (fun w2 => ?_)
  · have hb : b = m + 1 := by have : b - m = 1 := by simpa using w2
                              omega
    subst hb
    refine WP.loop (fun j => j.2.2 = s ∧ a ≤ j.1 ∧ j.1 ≤ j.2.1 ∧ j.2.1 ≤ m ∧ (∀ q, a ≤ q → q < j.1 → TO s (atD d q) (atD d m)) ∧ ∀ q, j.2.1 ≤ q → q < m → TO s (atD d m) (atD d q)) (fun j => (j.2.1 - j.1).toNat)
      ⟨rfl, Int.le_refl _, by dsimp only; omega, Int.le_refl _, fun q h1 h2 => by dsimp only at h2; omega, fun q h1 h2 => by dsimp only at h1; omega⟩ ?_
    rintro again ⟨i, j, c⟩ ⟨e1, e2, e3, e4, e5, e6⟩ ih1
    dsimp only at e1 e2 e3 e4 e5 e6 ⊢
    subst e1
    refine WP.bif (fun wh => ?_) (fun wh => ?_) <;> (try simp only [wpH, ne_eq] at wh)
    · obtain ⟨t, ht⟩ : ∃ t, t = (i + j) / 2 := ⟨_, rfl⟩
      have t1 : i ≤ t ∧ t < j := by omega
      rw [← ht]
      have hlo := low t m (by omega) (by omega) (by omega) (by omega)
      refine WP.chk ⟨by omega, by omega⟩ fun _ => WP.chk ⟨by omega, by omega⟩ fun _ => WP.chk ⟨by omega, by omega⟩ fun _ => WP.chk ⟨by omega, by omega⟩ fun _ => WP.chk ⟨by omega, by omega⟩ fun _ => WP.chk ⟨by omega, by omega⟩ fun _ => ?_
      refine WP.call (ocmp_sp _ _ c (rng m (by omega) (by omega)) (rng t (by omega) (by omega))) fun x ⟨hx1, hx2⟩ => ?_
      rw [TO.lt_iff hlo] at hx2
      rw [hx1]
      refine WP.bif (fun wl => ?_) (fun wl => ?_)
      · have hnl : ¬ x.1 < 0 := by simpa using wl
        have hlt : TO c (atD d t) (atD d m) := TO.total (fun h => hnl (hx2.2 h)) (by omega)
        refine WP.chk ⟨by omega, by omega⟩ fun _ => ?_
        refine ih1 _ ⟨rfl, by dsimp only; omega, by dsimp only; omega, e4, fun q h1 h2 => ?_, e6⟩ (by dsimp only; omega)
        dsimp only at h2
        by_cases hq : q = t
        · rw [hq]; exact hlt
        · exact (s1 q t h1 (by omega) (by omega)).trans hlt
      · have hlt := hx2.1 (by simpa using wl)
        refine ih1 _ ⟨rfl, e2, by dsimp only; omega, by dsimp only; omega, e5, fun q h1 h2 => ?_⟩ (by dsimp only; omega)
        dsimp only at h1
        by_cases hq : q = t
        · rw [hq]; exact hlt
        · exact hlt.trans (s1 t q (by omega) (by omega) h2)
    · have hij : i = j := by omega
      subst hij
      refine WP.loop (fun k => i ≤ k.1 ∧ k.1 ≤ m ∧ k.2.length = d.length ∧ (∀ p, k.1 < p → p ≤ m → atD k.2 p = atD d (p - 1)) ∧ atD k.2 k.1 = atD d m ∧ ∀ p, 0 ≤ p → (p < k.1 ∨ m < p) → atD k.2 p = atD d p) (fun k => k.1.toNat)
        ⟨by dsimp only; omega, Int.le_refl _, rfl, fun p h1 h2 => by dsimp only at h1; omega, rfl, fun _ _ _ => rfl⟩ ?_
      rintro again2 ⟨k, d2⟩ ⟨f1, f2, f3, r1, r2, r3⟩ ih2
      dsimp only at f1 f2 f3 r1 r2 r3 ⊢
      refine WP.bif (fun wk => ?_) (fun wk => ?_)
      · have hk : i < k := by simpa using wk
        have hsw := fun (p : Int) (hp : 0 ≤ p) => atD_swap (d := d2) (i := k) (j := k - 1) (p := p) ⟨by omega, by omega⟩ ⟨by omega, by omega⟩ hp
        have hk1 := r3 (k - 1) (by omega) (by omega)
        rw [r2, hk1] at hsw ⊢
        refine WP.chk ⟨by omega, by omega⟩ fun _ => WP.chk ⟨by omega, by omega⟩ fun _ => WP.chk ⟨by omega, by omega⟩ fun _ => WP.chk ⟨by omega, by omega⟩ fun _ => WP.chk ⟨by omega, by omega⟩ fun _ => WP.chk ⟨by omega, by rw [length_setD]; omega⟩ fun _ => WP.chk ⟨by omega, by omega⟩ fun _ => ?_
        refine ih2 _ ⟨by dsimp only; omega, by dsimp only; omega, by dsimp only; rw [length_setD, length_setD]; exact f3, fun p h1 h2 => ?_, ?_, fun p h1 h2 => ?_⟩ (by dsimp only; omega)
        · dsimp only at h1 ⊢
          rw [hsw p (by omega), if_neg (by omega)]
          by_cases hp : p = k
          · rw [if_pos hp, hp]
          · rw [if_neg hp]; exact r1 p (by omega) h2
        · dsimp only
          rw [hsw _ (by omega), if_pos rfl]
        · dsimp only at h2 ⊢
          rw [hsw p h1, if_neg (by omega), if_neg (by omega)]; exact r3 p h1 (by omega)
      · have hk : ¬ i < k := by simpa using wk
        have hki : k = i := by omega
        subst hki
        refine WP.ret ⟨rfl, f3, fun p q h1 h2 h3 => ?_, fun p h1 h2 => ?_, fun p h1 h2 => r3 p h1 (by omega)⟩
        · dsimp only
          by_cases q1 : q < k
          · rw [r3 p (by omega) (by omega), r3 q (by omega) (by omega)]; exact s1 _ _ h1 h2 (by omega)
          by_cases q2 : q = k
          · rw [q2, r2, r3 p (by omega) (by omega)]; exact e5 p h1 (by omega)
          rw [r1 q (by omega) (by omega)]
          by_cases q3 : p < k
          · rw [r3 p (by omega) (by omega)]; exact s1 _ _ h1 (by omega) (by omega)
          by_cases q4 : p = k
          · rw [q4, r2]; exact e6 _ (by omega) (by omega)
          · rw [r1 p (by omega) (by omega)]; exact s1 _ _ (by omega) (by omega) (by omega)
        · dsimp only
          by_cases q1 : p < k
          · exact ⟨p, h1, h2, r3 p (by omega) (by omega)⟩
          by_cases q2 : p = k
          · exact ⟨m, by omega, by omega, by rw [q2]; exact r2⟩
          · exact ⟨p - 1, by omega, by omega, r1 p (by omega) (by omega)⟩
  have w2' : ¬ b - m = 1 := by simpa using w2
  obtain ⟨mid, hmid⟩ : ∃ mid, mid = (a + b) / 2 := ⟨_, rfl⟩
  have m1 : 2 * mid ≤ a + b ∧ a + b ≤ 2 * mid + 1 := by omega
  simp only [← hmid]
  refine WP.chk ⟨by omega, by omega⟩ fun _ => WP.chk ⟨by omega, by omega⟩ fun _ => WP.chk ⟨by omega, by omega⟩ fun _ => WP.chk ⟨by omega, by omega⟩ fun _ => WP.chk ⟨by omega, by omega⟩ fun _ => ?_
  refine WP.join (fun j => a ≤ j.1 ∧ j.1 ≤ j.2 ∧ j.2 ≤ m ∧ j.2 ≤ mid ∧ (j.1 = a ∨ j.1 = mid + m - b) ∧ (j.2 = m ∨ j.2 = mid) ∧ mid + m - b ≤ j.1) ?_ fun k hk => ?_
  rotate_left
  · refine WP.bif (fun w3 => ?_) (fun w3 => ?_)
    · have w3' : mid < m := by simpa using w3
      refine WP.chk ⟨by omega, by omega⟩ fun _ => hk _ ⟨by dsimp only; omega, by dsimp only; omega, by dsimp only; omega, by dsimp only; omega, .inr (by dsimp only), .inr rfl, by dsimp only; omega⟩
    · have w3' : ¬ mid < m := by simpa using w3
      exact hk _ ⟨by dsimp only; omega, by dsimp only; omega, by dsimp only; omega, by dsimp only; omega, .inl rfl, .inl rfl, by dsimp only; omega⟩
  rintro ⟨lo, hi⟩ ⟨n1, n2, n3, n4, n5, n6, n7⟩
  dsimp only at n1 n2 n3 n4 n5 n6 n7 ⊢
  refine WP.chk ⟨by omega, by omega⟩ fun _ => ?_
  refine WP.loop (fun j => j.2.2 = s ∧ lo ≤ j.1 ∧ j.1 ≤ j.2.1 ∧ j.2.1 ≤ hi ∧ (∀ c, lo ≤ c → c < j.1 → TO s (atD d c) (atD d (mid + m - 1 - c))) ∧ ∀ c, j.2.1 ≤ c → c < hi → TO s (atD d (mid + m - 1 - c)) (atD d c)) (fun j => (j.2.1 - j.1).toNat)
    ⟨rfl, Int.le_refl _, n2, Int.le_refl _, fun q h1 h2 => by dsimp only at h2; omega, fun q h1 h2 => by dsimp only at h1; omega⟩ ?_
  rintro again ⟨st, r, c⟩ ⟨e1, e2, e3, e4, e5, e6⟩ ih1
  dsimp only at e1 e2 e3 e4 e5 e6 ⊢
  subst e1
  refine WP.bif (fun wh => ?_) (fun wh => ?_) <;> (try simp only [wpH, ne_eq] at wh)
  · obtain ⟨t, ht⟩ : ∃ t, t = (st + r) / 2 := ⟨_, rfl⟩
    have t1 : st ≤ t ∧ t < r := by omega
    rw [← ht]
    have hlo := low t (mid + m - 1 - t) (by omega) (by omega) (by omega) (by omega)
    refine WP.chk ⟨by omega, by omega⟩ fun _ => WP.chk ⟨by omega, by omega⟩ fun _ => WP.chk ⟨by omega, by omega⟩ fun _ => WP.chk ⟨by omega, by omega⟩ fun _ => WP.chk ⟨by omega, by omega⟩ fun _ => WP.chk ⟨by omega, by omega⟩ fun _ => WP.chk ⟨by omega, by omega⟩ fun _ => ?_
    refine WP.call (ocmp_sp _ _ c (rng _ (by omega) (by omega)) (rng t (by omega) (by omega))) fun x ⟨hx1, hx2⟩ => ?_
    rw [TO.lt_iff hlo] at hx2
    rw [hx1]
    refine WP.bif (fun wl => ?_) (fun wl => ?_)
    · have hnl : ¬ x.1 < 0 := by simpa using wl
      have hlt : TO c (atD d t) (atD d (mid + m - 1 - t)) := TO.total (fun h => hnl (hx2.2 h)) (by omega)
      refine WP.chk ⟨by omega, by omega⟩ fun _ => ?_
      refine ih1 _ ⟨rfl, by dsimp only; omega, by dsimp only; omega, e4, fun q h1 h2 => ?_, e6⟩ (by dsimp only; omega)
      dsimp only at h2
      by_cases hq : q = t
      · rw [hq]; exact hlt
      · exact ((s1 q t (by omega) (by omega) (by omega)).trans hlt).trans (s2 _ _ (by omega) (by omega) (by omega))
    · have hlt := hx2.1 (by simpa using wl)
      refine ih1 _ ⟨rfl, e2, by dsimp only; omega, by dsimp only; omega, e5, fun q h1 h2 => ?_⟩ (by dsimp only; omega)
      dsimp only at h1
      by_cases hq : q = t
      · rw [hq]; exact hlt
      · exact ((s2 (mid + m - 1 - q) (mid + m - 1 - t) (by omega) (by omega) (by omega)).trans hlt).trans (s1 t q (by omega) (by omega) (by omega))
  have hij : st = r := by omega
  subst hij
  refine WP.chk ⟨by omega, by omega⟩ fun _ => ?_
  obtain ⟨e, he⟩ : ∃ e, e = mid + m - st := ⟨_, rfl⟩
  simp only [← he]
  refine WP.join (fun j => j.2 = c ∧ j.1.length = d.length ∧ ∀ p, 0 ≤ p → atD j.1 p = rotA d st m e p) ?_ fun k hk => ?_
  rotate_left
  · have hno : ¬ (st < m ∧ m < e) → ∀ p, 0 ≤ p → atD d p = rotA d st m e p := fun hn p hp => by
      unfold rotA
      (repeat' split) <;> first | (exfalso; omega) | rfl | (congr 1; omega)
    refine WP.bif (fun w3 => ?_) (fun w3 => ?_)
    · have w3' : st < m := by simpa using w3
      refine WP.bif (fun w4 => ?_) (fun w4 => ?_)
      · have w4' : m < e := by simpa using w4
        refine WP.call (rot_sp c d st m e ⟨by omega, w3', w4', by omega, c5⟩) fun x ⟨x1, x2, x3⟩ => hk _ ⟨x1, x2, x3⟩
      · have w4' : ¬ m < e := by simpa using w4
        exact hk _ ⟨rfl, rfl, hno fun h => w4' h.2⟩
    · have w3' : ¬ st < m := by simpa using w3
      exact hk _ ⟨rfl, rfl, hno fun h => w3' h.1⟩
  rintro ⟨d4, c4'⟩ ⟨g1, g2, g3⟩
  dsimp only at g1 g2 g3 ⊢
  subst g1
  have y1 : ∀ p, a ≤ p → p < st → atD d4 p = atD d p := fun p h1 h2 => by rw [g3 p (by omega)]; unfold rotA; rw [if_neg (by omega), if_neg (by omega)]
  have y2 : ∀ p, st ≤ p → p < mid → atD d4 p = atD d (p + (m - st)) := fun p h1 h2 => by rw [g3 p (by omega)]; unfold rotA; rw [if_pos (by omega)]
  have y3 : ∀ p, mid ≤ p → p < e → atD d4 p = atD d (p - (e - m)) := fun p h1 h2 => by rw [g3 p (by omega)]; unfold rotA; rw [if_neg (by omega), if_pos (by omega)]
  have y4 : ∀ p, e ≤ p → atD d4 p = atD d p := fun p h1 => by rw [g3 p (by omega)]; unfold rotA; rw [if_neg (by omega), if_neg (by omega)]
  have y5 : ∀ p, 0 ≤ p → p < a → atD d4 p = atD d p := fun p h1 h2 => by rw [g3 p (by omega)]; unfold rotA; rw [if_neg (by omega), if_neg (by omega)]
  have himg : ∀ p, a ≤ p → p < b → ∃ q, a ≤ q ∧ q < b ∧ atD d4 p = atD d q := fun p h1 h2 => by
    by_cases q1 : p < st
    · exact ⟨p, h1, h2, y1 p h1 q1⟩
    by_cases q2 : p < mid
    · exact ⟨_, by omega, by omega, y2 p (by omega) q2⟩
    by_cases q3 : p < e
    · exact ⟨_, by omega, by omega, y3 p (by omega) q3⟩
    · exact ⟨p, h1, h2, y4 p (by omega)⟩
  have hrng : ∀ p, a ≤ p → p < b → inN (atD d4 p) c4'.length := fun p h1 h2 => by
    obtain ⟨q, q1, q2, q3⟩ := himg p h1 h2
    rw [q3]; exact rng q q1 q2
  -- the left half stands ahead of the right one
  have hx : ∀ p q, a ≤ p → p < mid → mid ≤ q → q < b → TO c4' (atD d4 p) (atD d4 q) := fun p q h1 h2 h3 h4 => by
    have key1 : ∀ u v, a ≤ u → u < st → e ≤ v → v < b → TO c4' (atD d u) (atD d v) := fun u v u1 u2 v1 v2 => by
      have k1 := e5 (st - 1) (by omega) (by omega)
      rw [show mid + m - 1 - (st - 1) = e by omega] at k1
      have k2 : TO c4' (atD d u) (atD d e) := by
        by_cases hu : u = st - 1
        · rw [hu]; exact k1
        · exact (s1 u (st - 1) u1 (by omega) (by omega)).trans k1
      by_cases hv : v = e
      · rw [hv]; exact k2
      · exact k2.trans (s2 e v (by omega) (by omega) v2)
    have key2 : ∀ u v, m ≤ u → u < e → st ≤ v → v < m → TO c4' (atD d u) (atD d v) := fun u v u1 u2 v1 v2 => by
      have k1 := e6 st (by omega) (by omega)
      rw [show mid + m - 1 - st = e - 1 by omega] at k1
      have k2 : TO c4' (atD d u) (atD d st) := by
        by_cases hu : u = e - 1
        · rw [hu]; exact k1
        · exact (s2 u (e - 1) u1 (by omega) (by omega)).trans k1
      by_cases hv : v = st
      · rw [hv]; exact k2
      · exact k2.trans (s1 st v (by omega) (by omega) v2)
    by_cases q1 : p < st
    · rw [y1 p h1 q1]
      by_cases q2 : q < e
      · rw [y3 q h3 q2]; exact s1 _ _ h1 (by omega) (by omega)
      · rw [y4 q (by omega)]; exact key1 p q h1 q1 (by omega) h4
    · rw [y2 p (by omega) h2]
      by_cases q2 : q < e
      · rw [y3 q h3 q2]; exact key2 _ _ (by omega) (by omega) (by omega) (by omega)
      · rw [y4 q (by omega)]; exact s2 _ _ (by omega) (by omega) h4
  have hold : ∀ p, 0 ≤ p → (p < a ∨ b ≤ p) → atD d4 p = atD d p := fun p h1 h2 => by
    rcases h2 with h2 | h2
    · exact y5 p h1 h2
    · exact y4 p (by omega)
  have u1 : Sg c4' d4 a st := fun p q h1 h2 h3 => by rw [y1 p h1 (by omega), y1 q (by omega) h3]; exact s1 _ _ h1 h2 (by omega)
  have u2 : Sg c4' d4 st mid := fun p q h1 h2 h3 => by rw [y2 p h1 (by omega), y2 q (by omega) h3]; exact s2 _ _ (by omega) (by omega) (by omega)
  have u3 : Sg c4' d4 mid e := fun p q h1 h2 h3 => by rw [y3 p h1 (by omega), y3 q (by omega) h3]; exact s1 _ _ (by omega) (by omega) (by omega)
  have u4 : Sg c4' d4 e b := fun p q h1 h2 h3 => by rw [y4 p h1, y4 q (by omega)]; exact s2 _ _ (by omega) h2 h3
  refine WP.join (MPost c4' d4 a mid) ?_ fun k5 hk5 => ?_
  rotate_left
  · have hno : ¬ (a < st ∧ st < mid) → MPost c4' d4 a mid (d4, c4') := fun hn => ⟨rfl, rfl, fun p q h1 h2 h3 => by
      by_cases hst : a < st
      · exact u1 p q h1 h2 (by omega)
      · exact u2 p q (by omega) h2 h3, fun p h1 h2 => ⟨p, h1, h2, rfl⟩, fun _ _ _ => rfl⟩
    refine WP.bif (fun w3 => ?_) (fun w3 => ?_)
    · have w3' : a < st := by simpa using w3
      refine WP.bif (fun w4 => ?_) (fun w4 => ?_)
      · have w4' : st < mid := by simpa using w4
        refine WP.call (ih d4 a st mid (by omega) ⟨by omega, u1, u2, fun p q h1 h2 h3 h4 => ?_, fun p h1 h2 => hrng p h1 (by omega)⟩) fun x hx5 => hk5 _ hx5
        rw [y1 p h1 h2, y2 q h3 h4]
        exact low _ _ h1 (by omega) (by omega) (by omega)
      · have w4' : ¬ st < mid := by simpa using w4
        exact hk5 _ (hno fun h => w4' h.2)
    · have w3' : ¬ a < st := by simpa using w3
      exact hk5 _ (hno fun h => w3' h.1)
  rintro ⟨d5, c5'⟩ h5
  have hc5 : c5' = c4' := h5.cmp
  subst hc5
  have hl5 : d5.length = d.length := by have := h5.len; dsimp only at this; omega
  have v5 : ∀ p, mid ≤ p → atD d5 p = atD d4 p := fun p h1 => h5.old p (by omega) (.inr h1)
  have v3 : Sg c5' d5 mid e := fun p q h1 h2 h3 => by rw [v5 p h1, v5 q (by omega)]; exact u3 p q h1 h2 h3
  have v4 : Sg c5' d5 e b := fun p q h1 h2 h3 => by rw [v5 p (by omega), v5 q (by omega)]; exact u4 p q h1 h2 h3
  have hno : ¬ (mid < e ∧ e < b) → MPost c5' d a b (d5, c5') := fun hn => MPost.glue (by omega) g2 himg hold hx h5 ⟨rfl, rfl, fun p q h1 h2 h3 => by
      dsimp only
      by_cases hst : mid < e
      · exact v3 p q h1 h2 (by omega)
      · exact v4 p q (by omega) h2 h3, fun p h1 h2 => ⟨p, h1, h2, rfl⟩, fun _ _ _ => rfl⟩
  refine WP.bif (fun w3 => ?_) (fun w3 => ?_)
  · have w3' : mid < e := by simpa using w3
    refine WP.bif (fun w4 => ?_) (fun w4 => ?_)
    · have w4' : e < b := by simpa using w4
      refine WP.call (ih d5 mid e b (by omega) ⟨by omega, v3, v4, fun p q h1 h2 h3 h4 => ?_, fun p h1 h2 => by rw [v5 p h1]; exact hrng p (by omega) h2⟩) fun x hx6 => WP.ret (MPost.glue (by omega) g2 himg hold hx h5 hx6)
      rw [v5 p h1, v5 q (by omega), y3 p h1 h2, y4 q h3]
      exact low _ _ (by omega) (by omega) (by omega) h4
    · have w4' : ¬ e < b := by simpa using w4
      exact WP.ret (hno fun h => w4' h.2)
  · have w3' : ¬ mid < e := by simpa using w3
    exact WP.ret (hno fun h => w3' h.1)
theorem sm_at (s : List ASlot) : ∀ (n : Nat) (d : List Int) (a m b : Int), b - a < n → MPre s d a m b → WP (slices_symMergeCmpFunc_int__of_colour_Order_1_at n d a m b s) (MPost s d a b)
  | 0, d, a, m, b, h, hp => by have := hp.bnd; omega
  | n + 1, d, a, m, b, h, hp => smb_sp _ s d a m b hp fun d' a' m' b' h' hp' => sm_at s n d' a' m' b' (by omega) hp'
theorem sm_sp (s : List ASlot) (d : List Int) (a m b : Int) (hp : MPre s d a m b) : WP (slices_symMergeCmpFunc_int__of_colour_Order_1 d a m b s) (MPost s d a b) :=
  WP.fix ((b - a).toNat + 1) (sm_at s _ d a m b (by have := hp.bnd; omega) hp)
end Go.Proofs.Ythlpmklgokjdkaa.Q
