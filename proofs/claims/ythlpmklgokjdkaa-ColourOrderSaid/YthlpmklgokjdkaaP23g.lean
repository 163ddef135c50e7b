/- The stable sort of the library, the order of any slots, and the law. -/
import Derived.Test.YthlpmklgokjdkaaP23f
set_option linter.unusedVariables false
set_option linter.unusedSimpArgs false
namespace Go.Proofs.Ythlpmklgokjdkaa.Q
/-- Blocks of B: each is in order and holds its own numbers. -/
def Blk (s : List ASlot) (n B : Int) (d : List Int) : Prop := d.length = n ∧ (∀ p : Int, 0 ≤ p → p < n → 0 ≤ atD d p ∧ atD d p < n ∧ atD d p / B = p / B) ∧ ∀ p q : Int, 0 ≤ p → p < q → q < n → p / B = q / B → TO s (atD d p) (atD d q)
/-- One round of merges: up to a in blocks of 2B, from there in blocks of B. -/
def Half (s : List ASlot) (n B : Int) (a : Int) (d : List Int) : Prop := d.length = n ∧ 0 ≤ a ∧ a ≤ n ∧ a % (2 * B) = 0 ∧ (∀ p : Int, 0 ≤ p → p < n → 0 ≤ atD d p ∧ atD d p < n ∧ atD d p / (2 * B) = p / (2 * B) ∧ (a ≤ p → atD d p / B = p / B)) ∧
  (∀ p q : Int, 0 ≤ p → p < q → q < a → p / (2 * B) = q / (2 * B) → TO s (atD d p) (atD d q)) ∧ ∀ p q, a ≤ p → p < q → q < n → p / B = q / B → TO s (atD d p) (atD d q)
def isB (B : Int) : Prop := B = 20 ∨ B = 40 ∨ B = 80 ∨ B = 160
theorem merge_pre {s : List ASlot} {n B a e : Int} {d : List Int} (hB : isB B) (hn : n ≤ 200) (hs : n ≤ s.length) (h : Half s n B a d) (h1 : a + B < e) (h2 : e ≤ n) (h3 : e ≤ a + 2 * B) : MPre s d a (a + B) e := by
  obtain ⟨g1, g2, g3, g4, g5, g6, g7⟩ := h
  rcases hB with rfl | rfl | rfl | rfl <;>
  exact ⟨by omega, fun p q q1 q2 q3 => g7 p q q1 q2 (by omega) (by omega), fun p q q1 q2 q3 => g7 p q (by omega) q2 (by omega) (by omega),
    fun p q q1 q2 q3 q4 => by
      have e1 := g5 p (by omega) (by omega)
      have e2 := g5 q (by omega) (by omega)
      have e3 := e1.2.2.2 (by omega)
      have e4 := e2.2.2.2 (by omega)
      omega,
    fun p q1 q2 => ⟨(g5 p (by omega) (by omega)).1, by have := (g5 p (by omega) (by omega)).2.1; omega⟩⟩
theorem merge_all {s : List ASlot} {n B a e : Int} {d d' : List Int} {c : List ASlot} (hB : isB B) (hn : n ≤ 200) (h : Half s n B a d) (h1 : a + B < e) (h2 : e ≤ n) (h3 : e ≤ a + 2 * B) (hm : MPost s d a e (d', c)) :
    d'.length = n ∧ (∀ p : Int, 0 ≤ p → p < n → 0 ≤ atD d' p ∧ atD d' p < n ∧ atD d' p / (2 * B) = p / (2 * B) ∧ (e ≤ p → atD d' p / B = p / B)) ∧ (∀ p q : Int, 0 ≤ p → p < q → q < e → p / (2 * B) = q / (2 * B) → TO s (atD d' p) (atD d' q)) ∧ ∀ p q, e ≤ p → p < q → q < n → p / B = q / B → TO s (atD d' p) (atD d' q) := by
  obtain ⟨g1, g2, g3, g4, g5, g6, g7⟩ := h
  obtain ⟨m1, m2, m3, m4, m5⟩ := hm
  dsimp only at m2 m3 m4 m5
  refine ⟨by omega, fun p p1 p2 => ?_, fun p q p1 p2 p3 p4 => ?_, fun p q p1 p2 p3 p4 => ?_⟩
  · by_cases hp : p < a ∨ e ≤ p
    · rw [m5 p p1 hp]
      have := g5 p p1 p2
      exact ⟨this.1, this.2.1, this.2.2.1, fun h => this.2.2.2 (by rcases hB with rfl | rfl | rfl | rfl <;> omega)⟩
    · obtain ⟨q, q1, q2, q3⟩ := m4 p (by omega) (by omega)
      rw [q3]
      have := g5 q (by omega) (by omega)
      refine ⟨this.1, this.2.1, ?_, fun h => by omega⟩
      rw [this.2.2.1]
      rcases hB with rfl | rfl | rfl | rfl <;> omega
  · by_cases hq : q < a
    · rw [m5 p p1 (by omega), m5 q (by omega) (by omega)]; exact g6 p q p1 p2 hq p4
    · exact m3 p q (by rcases hB with rfl | rfl | rfl | rfl <;> omega) p2 p3
  · rw [m5 p (by omega) (by omega), m5 q (by omega) (by omega)]
    exact g7 p q (by rcases hB with rfl | rfl | rfl | rfl <;> omega) p2 p3 p4
theorem stable_sp (s : List ASlot) (hl : s.length ≤ 200) : WP (slices_stableCmpFunc_int__of_colour_Order_1 (rngL s.length) s.length s) fun r => r.2 = s ∧ r.1.length = s.length ∧ Sg s r.1 0 s.length ∧ ∀ p, inN p s.length → inN (atD r.1 p) s.length := by
  have hid : ∀ p : Int, 0 ≤ p → p < s.length → atD (rngL s.length) p = p := fun p h1 h2 => by
    have hp : p.toNat < (rngL s.length).length := by rw [rngL_length]; omega
    have := atD_nat (l := rngL s.length) hp
    rw [Int.toNat_of_nonneg h1] at this
    rw [this]
    simp [rngL]; omega
  unfold slices_stableCmpFunc_int__of_colour_Order_1
  refine WP.loop (fun j => j.2.2.2 = s ∧ 0 ≤ j.1 ∧ j.1 ≤ s.length ∧ j.1 % 20 = 0 ∧ j.2.1 = j.1 + 20 ∧ j.2.2.1.length = s.length ∧ (∀ p : Int, 0 ≤ p → p < s.length → 0 ≤ atD j.2.2.1 p ∧ atD j.2.2.1 p < s.length ∧ atD j.2.2.1 p / 20 = p / 20 ∧ (j.1 ≤ p → atD j.2.2.1 p = p)) ∧ ∀ p q : Int, 0 ≤ p → p < q → q < j.1 → p / 20 = q / 20 → TO s (atD j.2.2.1 p) (atD j.2.2.1 q)) (fun j => (s.length - j.1).toNat)
    ⟨rfl, Int.le_refl _, by dsimp only; omega, rfl, rfl, by dsimp only; rw [rngL_length], fun p h1 h2 => by dsimp only; rw [hid p h1 h2]; exact ⟨h1, h2, rfl, fun _ => rfl⟩, fun p q h1 h2 h3 => by dsimp only at h3; omega⟩ ?_
  rintro again ⟨a, b, d, c⟩ ⟨e1, e2, e3, e4, e5, e6, e7, e8⟩ ih
  dsimp only at e1 e2 e3 e4 e5 e6 e7 e8 ⊢
  subst e1 e5
  -- what one more block makes
  have blk : ∀ e (r : List Int × List ASlot), a ≤ e → e ≤ c.length → e ≤ a + 20 → MPost c d a e r → (∀ p : Int, 0 ≤ p → p < c.length → 0 ≤ atD r.1 p ∧ atD r.1 p < c.length ∧ atD r.1 p / 20 = p / 20 ∧ (e ≤ p → atD r.1 p = p)) ∧ ∀ p q : Int, 0 ≤ p → p < q → q < e → p / 20 = q / 20 → TO c (atD r.1 p) (atD r.1 q) := by
    intro e r h1 h2 h3 ⟨m1, m2, m3, m4, m5⟩
    refine ⟨fun p p1 p2 => ?_, fun p q p1 p2 p3 p4 => ?_⟩
    · by_cases hp : p < a ∨ e ≤ p
      · rw [m5 p p1 hp]
        have := e7 p p1 p2
        exact ⟨this.1, this.2.1, this.2.2.1, fun h => this.2.2.2 (by omega)⟩
      · obtain ⟨q, q1, q2, q3⟩ := m4 p (by omega) (by omega)
        rw [q3]
        have := e7 q (by omega) (by omega)
        exact ⟨this.1, this.2.1, by rw [this.2.2.1]; omega, fun h => by omega⟩
    · by_cases hq : q < a
      · rw [m5 p p1 (by omega), m5 q (by omega) (by omega)]; exact e8 p q p1 p2 hq p4
      · exact m3 p q (by omega) p2 p3
  refine WP.bif (fun wh => ?_) (fun wh => ?_) <;> (try simp only [wpH, ne_eq] at wh)
  · refine WP.call (isort_sp c d a (a + 20) e2 (by omega) (by omega) (by omega) (by omega) fun p h1 h2 => (e7 p (by omega) (by omega)).2.2.2 h1) fun x hx => ?_
    obtain ⟨k1, k2⟩ := blk (a + 20) x (by omega) wh (by omega) hx
    refine WP.chk ⟨by omega, by omega⟩ fun _ => ih _ ⟨hx.cmp, by dsimp only; omega, wh, by dsimp only; omega, rfl, by dsimp only; rw [hx.len, e6], k1, k2⟩ (by dsimp only; omega)
  refine WP.call (isort_sp c d a c.length e2 e3 (by omega) (by omega) (by omega) fun p h1 h2 => (e7 p (by omega) (by omega)).2.2.2 h1) fun x hx => ?_
  obtain ⟨k1, k2⟩ := blk c.length x e3 (Int.le_refl _) (by omega) hx
  refine WP.loop (fun j => j.2.2 = c ∧ (isB j.1 ∨ j.1 = 320) ∧ Blk c c.length j.1 j.2.1) (fun j => (320 - j.1).toNat) ⟨hx.cmp, .inl (.inl rfl), by dsimp only; rw [hx.len, e6], fun p p1 p2 => ?_, fun p q p1 p2 p3 p4 => k2 p q p1 p2 p3 p4⟩ ?_
  · have := k1 p p1 p2
    exact ⟨this.1, this.2.1, this.2.2.1⟩
  clear k1 k2 blk e6 e7 e8 ih hx x e2 e3 e4 wh
  rintro again ⟨B, d, c'⟩ ⟨e1, e2, e3⟩ ih
  dsimp only at e1 e2 e3 ⊢
  subst e1
  refine WP.bif (fun wh => ?_) (fun wh => ?_) <;> (try simp only [wpH, ne_eq] at wh)
  · have hB : isB B := e2.resolve_right fun h => by omega
    have hB' : 20 ≤ B ∧ B ≤ 160 := by rcases hB with h | h | h | h <;> omega
    have hB2 : isB (B * 2) ∨ B * 2 = 320 := by unfold isB at *; omega
    refine WP.chk ⟨by omega, by omega⟩ fun _ => ?_
    refine WP.loop (fun j => j.2.2.2 = c' ∧ j.2.1 = j.1 + 2 * B ∧ Half c' c'.length B j.1 j.2.2.1) (fun j => (c'.length - j.1).toNat) ⟨rfl, by dsimp only; omega, ?_⟩ ?_
    · obtain ⟨g1, g2, g3⟩ := e3
      refine ⟨g1, Int.le_refl _, by dsimp only; omega, Int.zero_emod _, fun p p1 p2 => ?_, fun p q p1 p2 p3 => by dsimp only at p3; omega, fun p q p1 p2 p3 p4 => g3 p q p1 p2 p3 p4⟩
      have := g2 p p1 p2
      refine ⟨this.1, this.2.1, ?_, fun _ => this.2.2⟩
      have h3 := this.2.2
      dsimp only
      rcases hB with rfl | rfl | rfl | rfl <;> omega
    rintro again3 ⟨a, b, d2, c2⟩ ⟨f1, f2, f3⟩ ih3
    dsimp only at f1 f2 f3 ⊢
    subst f1 f2
    have ha := f3.2.1
    have ha2 := f3.2.2.1
    refine WP.bif (fun w3 => ?_) (fun w3 => ?_)
    · have w3' : a + 2 * B ≤ c2.length := by simpa using w3
      refine WP.chk ⟨by omega, by omega⟩ fun _ => ?_
      refine WP.call (sm_sp c2 d2 a (a + B) (a + 2 * B) (merge_pre hB (by omega) (by omega) f3 (by omega) w3' (by omega))) fun x hx => ?_
      obtain ⟨q1, q2, q3, q4⟩ := merge_all hB (by omega) f3 (by omega) w3' (by omega) (show MPost c2 d2 a (a + 2 * B) (x.1, x.2) from hx)
      refine WP.chk ⟨by omega, by omega⟩ fun _ => WP.chk ⟨by omega, by omega⟩ fun _ => ?_
      refine ih3 _ ⟨hx.cmp, rfl, q1, by dsimp only; omega, w3', ?_, q2, q3, q4⟩ (by dsimp only; omega)
      have := f3.2.2.2.1
      dsimp only
      rcases hB with rfl | rfl | rfl | rfl <;> omega
    · have w3' : ¬ a + 2 * B ≤ c2.length := by simpa using w3
      refine WP.chk ⟨by omega, by omega⟩ fun _ => ?_
      refine WP.bif (fun w4 => ?_) (fun w4 => ?_)
      · have w4' : a + B < c2.length := by simpa using w4
        refine WP.call (sm_sp c2 d2 a (a + B) c2.length (merge_pre hB (by omega) (by omega) f3 w4' (Int.le_refl _) (by omega))) fun x hx => ?_
        obtain ⟨q1, q2, q3, q4⟩ := merge_all hB (by omega) f3 w4' (Int.le_refl _) (by omega) (show MPost c2 d2 a c2.length (x.1, x.2) from hx)
        refine WP.chk ⟨by omega, by omega⟩ fun _ => ih _ ⟨hx.cmp, hB2, q1, fun p p1 p2 => ?_, fun p q p1 p2 p3 p4 => q3 p q p1 p2 p3 (by rw [Int.mul_comm]; exact p4)⟩ (by dsimp only; omega)
        have := q2 p p1 p2
        dsimp only
        rw [Int.mul_comm]
        exact ⟨this.1, this.2.1, this.2.2.1⟩
      · have w4' : ¬ a + B < c2.length := by simpa using w4
        obtain ⟨g1, g2, g3, g4, g5, g6, g7⟩ := f3
        refine WP.chk ⟨by omega, by omega⟩ fun _ => ih _ ⟨rfl, hB2, g1, fun p p1 p2 => ?_, fun p q p1 p2 p3 p4 => ?_⟩ (by dsimp only; omega)
        · have := g5 p p1 p2
          dsimp only
          rw [Int.mul_comm]
          exact ⟨this.1, this.2.1, this.2.2.1⟩
        · dsimp only at p4 ⊢
          rw [Int.mul_comm] at p4
          by_cases hq : q < a
          · exact g6 p q p1 p2 hq p4
          · exact g7 p q (by rcases hB with rfl | rfl | rfl | rfl <;> omega) p2 p3 (by rcases hB with rfl | rfl | rfl | rfl <;> omega)
  · obtain ⟨g1, g2, g3⟩ := e3
    refine WP.ret ⟨rfl, by dsimp only at g1 ⊢; omega, fun p q p1 p2 p3 => g3 p q p1 p2 p3 ?_, fun p hp => ?_⟩
    · rcases e2 with (rfl | rfl | rfl | rfl) | rfl <;> omega
    · have := g2 p hp.1 hp.2
      exact ⟨this.1, this.2.1⟩
/-! ### Two lists in one order -/
theorem TO.pairwise {s : List ASlot} {d : List Int} {n : Int} (hn : d.length = n) (h : Sg s d 0 n) : d.Pairwise (TO s) := by
  rw [List.pairwise_iff_getElem]
  intro i j hi hj hij
  have := h i j (by omega) (by omega) (by omega)
  rwa [atD_nat hi, atD_nat hj] at this
theorem TO.unique {s : List ASlot} : ∀ {a b : List Int}, a.Pairwise (TO s) → b.Pairwise (TO s) → (∀ x, x ∈ a ↔ x ∈ b) → a = b
  | [], [], _, _, _ => rfl
  | [], y :: b, _, _, h => by have := (h y).2 List.mem_cons_self; cases this
  | x :: a, [], _, _, h => by have := (h x).1 List.mem_cons_self; cases this
  | x :: a, y :: b, ha, hb, h => by
    obtain ⟨a1, a2⟩ := List.pairwise_cons.1 ha
    obtain ⟨b1, b2⟩ := List.pairwise_cons.1 hb
    have hxy : x = y := by
      rcases List.mem_cons.1 ((h x).1 List.mem_cons_self) with e | e
      · exact e
      rcases List.mem_cons.1 ((h y).2 List.mem_cons_self) with e' | e'
      · exact e'.symm
      · exact ((a1 y e').asymm (b1 x e)).elim
    subst hxy
    rw [TO.unique a2 b2 fun z => ?_]
    have hz := h z
    rw [List.mem_cons, List.mem_cons] at hz
    constructor
    · intro hm
      rcases hz.1 (.inr hm) with e | e
      · subst e; exact ((a1 _ hm).asymm (a1 _ hm)).elim
      · exact e
    · intro hm
      rcases hz.2 (.inr hm) with e | e
      · subst e; exact ((b1 _ hm).asymm (b1 _ hm)).elim
      · exact e
theorem OrdP.sorted {s : List ASlot} : ∀ {n : Nat} {a : List Int}, OrdP s n a → a.Pairwise (TO s)
  | 0, a, h => by rw [show a = [] from h]; exact List.Pairwise.nil
  | n + 1, a, ⟨l, h1, k, k1, k2, k3, k4, k5⟩ => by
    have ih := OrdP.sorted h1
    have hm := fun x => h1.mem (x := x)
    subst k3
    have hl : l = l.take k.toNat ++ l.drop k.toNat := (List.take_append_drop _ _).symm
    rw [hl] at ih
    obtain ⟨i1, i2, i3⟩ := List.pairwise_append.1 ih
    have hlt : ∀ x ∈ l, (x : Int) < n := fun x hx => ((hm x).1 hx).2
    refine List.pairwise_append.2 ⟨i1, List.pairwise_cons.2 ⟨fun y hy => ?_, i2⟩, fun x hx y hy => ?_⟩
    · obtain ⟨t, t1, t2, t3⟩ := mem_atD hy
      rw [List.length_drop] at t2
      have hy' : y = atD l (k + t) := by
        rw [← t3]
        unfold atD
        rw [List.getD_eq_getElem?_getD, List.getD_eq_getElem?_getD, List.getElem?_drop]
        congr 2; omega
      have h5 := k4 (k + t) ⟨by omega, by omega⟩ (by omega)
      rw [← hy'] at h5
      exact (TO.lt_iff (hlt y (List.drop_subset _ _ hy))).1 h5
    · have hxl := List.take_subset _ _ hx
      have main : TO s x n := by
        obtain ⟨t, t1, t2, t3⟩ := mem_atD hx
        rw [List.length_take] at t2
        have hx' : x = atD l t := by
          rw [← t3]
          unfold atD
          rw [List.getD_eq_getElem?_getD, List.getD_eq_getElem?_getD, List.getElem?_take_of_lt (by omega)]
        have hk := k5 (by omega)
        have hlk : atD l (k - 1) ∈ l := atD_mem ⟨by omega, by omega⟩
        have h6 : TO s (atD l (k - 1)) n := by
          refine TO.total (fun h => ?_) (by have := hlt _ hlk; omega)
          rw [(TO.lt_iff (hlt _ hlk)).2 h] at hk; cases hk
        by_cases ht : t = k - 1
        · rw [hx', ht]; exact h6
        · have hP := List.pairwise_iff_getElem.1 (OrdP.sorted h1) t.toNat (k - 1).toNat (by omega) (by omega) (by omega)
          have q1 := atD_nat (l := l) (i := t.toNat) (by omega)
          have q2 := atD_nat (l := l) (i := (k - 1).toNat) (by omega)
          rw [Int.toNat_of_nonneg (by omega)] at q1 q2
          rw [← q1, ← q2] at hP
          rw [hx']; exact hP.trans h6
      rcases List.mem_cons.1 hy with rfl | hy
      · exact main
      · exact i3 x hx y hy
theorem nodup_len23 : ∀ {a b : List Int}, a.Nodup → a ⊆ b → a.length ≤ b.length
  | [], _, _, _ => Nat.zero_le _
  | x :: r, b, h, hs => by
    have hx : x ∈ b := hs List.mem_cons_self
    obtain ⟨h1, h2⟩ := List.nodup_cons.1 h
    have := nodup_len23 (b := b.erase x) h2 fun y hy => by
      have hne : y ≠ x := fun e => h1 (e ▸ hy)
      exact (List.mem_erase_of_ne hne).2 (hs (List.mem_cons_of_mem _ hy))
    rw [List.length_erase_of_mem hx] at this
    have := List.length_pos_of_mem hx
    simp only [List.length_cons]
    omega
theorem ord_of_sorted {s : List ASlot} {d out : List Int} (hl : d.length = s.length) (hs : Sg s d 0 s.length) (hr : ∀ p, inN p s.length → inN (atD d p) s.length) (ho : OrdP s s.length out) : d = out := by
  have hp := TO.pairwise (n := s.length) (by omega) hs
  have hnd : d.Nodup := hp.imp fun {x y} h e => by subst e; exact h.asymm h
  have hin : ∀ x ∈ d, inN x s.length := fun x hx => by
    obtain ⟨t, t1, t2, rfl⟩ := mem_atD hx
    exact hr t ⟨t1, by omega⟩
  refine TO.unique hp ho.sorted fun x => ?_
  rw [ho.mem]
  refine ⟨fun hx => hin x hx, fun hx => ?_⟩
  refine Classical.byContradiction fun hnx => ?_
  have := nodup_len23 (a := x :: d) (b := rngL s.length) (List.nodup_cons.2 ⟨hnx, hnd⟩) fun y hy => by
    rcases List.mem_cons.1 hy with rfl | hy
    · exact mem_rngL.2 hx
    · exact mem_rngL.2 (hin y hy)
  rw [rngL_length, List.length_cons] at this
  omega
theorem corder_sp (s : List ASlot) (hl : s.length ≤ 200) : WP (colour_Order s) (OrdP s s.length) := by
  obtain ⟨out, -, hout⟩ := rorder_sp s (by omega)
  unfold colour_Order
  refine WP.loop (fun j => 0 ≤ j.1 ∧ j.1 ≤ s.length ∧ j.2 = rngL j.1.toNat) (fun j => s.length - j.1.toNat) ⟨by simp, by simp, rfl⟩ ?_
  rintro again ⟨i, l⟩ ⟨a1, a2, a3⟩ ih
  dsimp only at a1 a2 a3 ⊢
  subst a3
  refine WP.bif (fun wh => ?_) (fun wh => ?_) <;> (try simp only [wpH, ne_eq] at wh)
  · refine WP.chk (by rw [rngL_length]; simp only [List.length_cons, List.length_nil]; omega) fun _ => WP.chk ⟨by omega, by omega⟩ fun _ => ?_
    refine ih _ ⟨by dsimp only; omega, by dsimp only; omega, ?_⟩ (by dsimp only; omega)
    dsimp only
    rw [show (i + 1).toNat = i.toNat + 1 by omega, rngL_succ, show ((i.toNat : Nat) : Int) = i by omega]
  · have hi : i.toNat = s.length := by omega
    rw [hi]
    unfold slices_SortStableFunc___int_int__of_colour_Order_1
    rw [rngL_length]
    refine WP.call (R := fun r => OrdP s s.length r.1) ?_ fun r hr => WP.ret hr
    refine WP.call (stable_sp s hl) fun r ⟨h1, h2, h3, h4⟩ => WP.ret ?_
    dsimp only
    rw [ord_of_sorted h2 h3 h4 hout]; exact hout
theorem pl_ColourOrder (raw : List ASlot) (codes : List Int) (_hr : ∀ x ∈ raw, (-9223372036854775808 ≤ x.Size ∧ x.Size ≤ 9223372036854775807) ∧ (-9223372036854775808 ≤ x.Align ∧ x.Align ≤ 9223372036854775807)) (h : ∀ z ∈ codes, 0 ≤ z ∧ z ≤ 255) : WP (law23_ColourOrder raw codes) (· = true) := by
  unfold law23_ColourOrder
  refine WP.call awake23_sp ?_
  rintro _ rfl
  refine WP.bif (fun w => by cases w) (fun _ => ?_)
  refine WP.bif (fun w => WP.ret w) (fun w100 => ?_)
  have hraw : raw.length ≤ 200 := by have : ¬ (200 : Int) < raw.length := by simpa using w100
                                     omega
  refine WP.call (scene23_sp codes h) fun x2 ⟨hs, hl, hG, hc⟩ => ?_
  have main : ∀ (s : List ASlot), s.length ≤ 200 → ∀ (K : Bool → M Bool), WP (K true) (· = true) → WP (M.call (colour_Order s) fun x3 => M.call (r23_Order s) fun x4 => M.call (r04_Same x3 x4) K) (· = true) := fun s hs K hK => by
    refine WP.call (corder_sp s hs) fun o1 h1 => ?_
    refine WP.call (rorder_sp s (by omega)) fun o2 h2 => ?_
    obtain rfl := h1.unique h2
    have := h1.length
    refine WP.call (same_sp _ _ (by omega)) ?_
    rintro _ rfl
    rw [show decide (o1 = o1) = true by simp]
    exact hK
  refine main raw hraw _ ?_
  refine WP.bif (fun _ => ?_) (fun w => by cases w)
  exact main x2.1 (by omega) _ (WP.ret rfl)
end Go.Proofs.Ythlpmklgokjdkaa.Q
