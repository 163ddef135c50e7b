/- Placing slots: the order, fitting, assigning: what is safe and in range. -/
import Derived.Test.YtjnfnochdefpjaaGreatP3
import Derived.Test.YtjnfnochdefpjaaGreatP18
set_option linter.unusedVariables false
set_option linter.unusedSimpArgs false
namespace Go.Proofs.YtjnfnochdefpjaaGreat.Q
theorem before23_sp (a b : ASlot) : WP (r23_before a b) fun _ => True := by
  unfold r23_before
  refine WP.bif (fun _ => WP.ret trivial) fun _ => ?_
  exact WP.bif (fun _ => WP.ret trivial) fun _ => WP.ret trivial
theorem mem_slice {l : List Int} {a b y : Int} (h : y ∈ sliceD l a b) : y ∈ l := by
  unfold sliceD at h
  exact List.mem_of_mem_drop (List.mem_of_mem_take h)
theorem length_slice (l : List Int) {a b : Int} (h1 : 0 ≤ a) (h2 : a ≤ b) (h3 : b ≤ l.length) : ((sliceD l a b).length : Int) = b - a := by
  unfold sliceD
  rw [List.length_take, List.length_drop]
  omega
theorem order23_sp (s : List ASlot) (hs : s.length ≤ 1000) : WP (r23_Order s) fun r => r.length = s.length ∧ ∀ y ∈ r, inN y s.length := by
  unfold r23_Order
  refine WP.loop (fun j => (0 ≤ j.1 ∧ j.1 ≤ s.length) ∧ (j.2.length : Int) = j.1 ∧ ∀ y ∈ j.2, inN y j.1) (fun j => s.length - j.1.toNat) ⟨⟨by simp, by simp⟩, by simp, by simp⟩ ?_
  rintro again ⟨i, out⟩ ⟨⟨a1, a2⟩, a3, a4⟩ ih
  dsimp only at a1 a2 a3 a4 ih ⊢
  refine WP.bif (fun wh => ?_) (fun wh => ?_) <;> (try simp only [wpH, ne_eq] at wh)
  · have hil := wh
    refine WP.join (fun k => 0 ≤ k ∧ k ≤ out.length) ?_ ?_
    · rintro k ⟨k1, k2⟩
      have l1 := length_slice out (a := 0) (b := k) (by omega) k1 k2
      have l2 := length_slice out (a := k) (b := out.length) k1 k2 (Int.le_refl _)
      refine WP.chk ⟨by omega, k1, k2⟩ fun _ => ?_
      refine WP.chk (by omega) fun _ => ?_
      refine WP.chk (by simp only [List.length_singleton]; omega) fun _ => ?_
      refine WP.chk ⟨k1, k2, Int.le_refl _⟩ fun _ => ?_
      refine WP.chk (by simp only [List.length_append, List.length_singleton]; omega) fun _ => ?_
      refine WP.chk ⟨by omega, by omega⟩ fun _ => ?_
      refine ih _ ⟨⟨by dsimp only; omega, by dsimp only; omega⟩, by simp only [List.length_append, List.length_singleton]; omega, fun y hy => ?_⟩ (by dsimp only; omega)
      dsimp only at hy ⊢
      rw [List.mem_append, List.mem_append] at hy
      rcases hy with (h | h) | h
      · obtain ⟨q1, q2⟩ := a4 y (mem_slice h); exact ⟨q1, by omega⟩
      · rw [one_mem h]; exact ⟨a1, by omega⟩
      · obtain ⟨q1, q2⟩ := a4 y (mem_slice h); exact ⟨q1, by omega⟩
    · intro k2 hk2
      refine WP.loop (fun j => 0 ≤ j ∧ j ≤ out.length) (fun j => j.toNat) ⟨by omega, Int.le_refl _⟩ ?_
      rintro again2 k ⟨b1, b2⟩ ih2
      refine WP.bif (fun wh => ?_) (fun wh => ?_) <;> (try simp only [wpH, ne_eq] at wh)
      · have hkl := wh
        obtain ⟨q1, q2⟩ := a4 _ (atD_mem (l := out) (i := k - 1) ⟨by omega, by omega⟩)
        refine WP.chk ⟨a1, hil⟩ fun _ => ?_
        refine WP.chk ⟨by omega, by omega⟩ fun _ => ?_
        refine WP.chk ⟨by omega, by omega⟩ fun _ => ?_
        refine WP.chk ⟨q1, by omega⟩ fun _ => ?_
        refine WP.call (before23_sp _ _) fun b _ => ?_
        refine WP.bif (fun _ => ?_) (fun _ => hk2 _ ⟨b1, b2⟩)
        refine WP.chk ⟨by omega, by omega⟩ fun _ => ?_
        exact ih2 _ ⟨by omega, by omega⟩ (by omega)
      · exact hk2 _ ⟨b1, b2⟩
  · exact WP.ret ⟨by omega, fun y hy => by obtain ⟨q1, q2⟩ := a4 y hy; exact ⟨q1, by omega⟩⟩
def rgtP (a : AInterval) : Prop := 0 ≤ a.Off ∧ 0 ≤ a.Size ∧ a.Off + a.Size ≤ 2147483647
theorem rrightG_sp (a : AInterval) : WP (r03_Right a) fun b => (b = true ↔ rgtP a) := by
  unfold r03_Right rgtP
  refine WP.call (rbound_sp _) ?_
  rintro _ rfl
  refine WP.bif (fun wh => ?_) (fun wh => ?_)
  · have h1 := (boundB_iff _).1 wh
    refine WP.call (rbound_sp _) ?_
    rintro _ rfl
    refine WP.bif (fun wh => ?_) (fun wh => ?_)
    · have h2 := (boundB_iff _).1 wh
      refine WP.chk ⟨by omega, by omega⟩ fun _ => ?_
      exact WP.ret (by rw [decide_eq_true_eq]; omega)
    · have h2 := (boundB_no _).1 wh
      exact WP.ret ⟨fun q => (by cases q), fun q => by exfalso; omega⟩
  · have h1 := (boundB_no _).1 wh
    exact WP.ret ⟨fun q => (by cases q), fun q => by exfalso; omega⟩
theorem roverlapG_sp (a b : AInterval) : WP (r03_Overlap a b) fun _ => True := by
  unfold r03_Overlap
  refine WP.call (rrightG_sp a) fun x hx => ?_
  refine WP.bif (fun wh => ?_) fun _ => WP.ret trivial
  have h1 := hx.1 wh
  unfold rgtP at h1
  refine WP.call (rrightG_sp b) fun y hy => ?_
  refine WP.bif (fun wh => ?_) fun _ => WP.ret trivial
  have h2 := hy.1 wh
  unfold rgtP at h2
  refine WP.bif (fun _ => ?_) fun _ => WP.ret trivial
  refine WP.bif (fun _ => ?_) fun _ => WP.ret trivial
  refine WP.chk ⟨by omega, by omega⟩ fun _ => ?_
  refine WP.bif (fun _ => ?_) fun _ => WP.ret trivial
  refine WP.chk ⟨by omega, by omega⟩ fun _ => ?_
  exact WP.ret trivial
theorem free_sp (used : List AInterval) (x : AInterval) (hl : used.length ≤ 1000000) : WP (r03_free used x) fun _ => True := by
  unfold r03_free
  refine WP.loop (fun j => 0 ≤ j ∧ j ≤ used.length) (fun j => used.length - j.toNat) ⟨by omega, by omega⟩ ?_
  rintro again k ⟨a1, a2⟩ ih
  refine WP.bif (fun wh => ?_) (fun wh => ?_) <;> (try simp only [wpH, ne_eq] at wh)
  · refine WP.chk ⟨a1, wh⟩ fun _ => ?_
    refine WP.call (roverlapG_sp _ _) fun b _ => ?_
    refine WP.bif (fun _ => WP.ret trivial) fun _ => ?_
    refine WP.chk ⟨by omega, by omega⟩ fun _ => ?_
    exact ih _ ⟨by omega, by omega⟩ (by omega)
  · exact WP.ret trivial
theorem fit_sp (used : List AInterval) (from_ size al : Int) (hl : used.length ≤ 1000000) : WP (r03_Fit used from_ size al) fun r => r.2 = 0 → rgtP ⟨r.1, size⟩ := by
  unfold r03_Fit
  refine WP.call (rbound_sp _) ?_
  rintro _ rfl
  refine WP.bif (fun wh => ?_) (fun wh => ?_)
  · exact WP.ret fun q => by simp at q
  rw [Bool.not_eq_false'] at wh
  have hf := (boundB_iff _).1 wh
  refine WP.call (rbound_sp _) ?_
  rintro _ rfl
  refine WP.bif (fun wh => ?_) (fun wh => ?_)
  · exact WP.ret fun q => by simp at q
  refine WP.call (power_sp _) ?_
  rintro _ rfl
  refine WP.bif (fun wh => ?_) (fun wh => ?_)
  · exact WP.ret fun q => by simp at q
  refine WP.loop (fun j => (0 ≤ j ∧ j ≤ used.length) ∧ ∀ t, 0 ≤ t → t < j → rgtP (atD used t)) (fun j => used.length - j.toNat) ⟨⟨by omega, by omega⟩, fun t h1 h2 => by exfalso; omega⟩ ?_
  rintro again k ⟨⟨a1, a2⟩, a3⟩ ih
  refine WP.bif (fun wh => ?_) (fun wh => ?_) <;> (try simp only [wpH, ne_eq] at wh)
  · have hkl := wh
    refine WP.chk ⟨a1, wh⟩ fun _ => ?_
    refine WP.call (rrightG_sp _) fun b hb => ?_
    refine WP.bif (fun wh => ?_) (fun wh => ?_)
    · exact WP.ret fun q => by simp at q
    refine WP.chk ⟨by omega, by omega⟩ fun _ => ?_
    refine ih _ ⟨⟨by omega, by omega⟩, fun t h1 h2 => ?_⟩ (by omega)
    by_cases ht : t = k
    · rw [ht]; exact hb.1 (by simpa using wh)
    · exact a3 t h1 (by omega)
  · refine WP.loop (fun j => (-1 ≤ j.2.2 ∧ j.2.2 ≤ used.length) ∧ (j.2.1 = true → rgtP ⟨j.1, size⟩)) (fun j => (used.length - j.2.2).toNat) ⟨⟨by simp, by simp⟩, fun q => by cases q⟩ ?_
    rintro again2 ⟨best, found, t⟩ ⟨⟨b1, b2⟩, b3⟩ ih2
    dsimp only at b1 b2 b3 ih2 ⊢
    refine WP.bif (fun wh => ?_) (fun wh => ?_) <;> (try simp only [wpH, ne_eq] at wh)
    · have htl := wh
      have hgo : ∀ (b : Int) (fd : Bool), (fd = true → rgtP ⟨b, size⟩) → WP (M.chk (okI (t + 1)) (again2 (b, fd, t + 1))) fun r => r.2 = 0 → rgtP ⟨r.1, size⟩ := fun b fd hb =>
        WP.chk ⟨by omega, by omega⟩ fun _ => ih2 _ ⟨⟨by dsimp only; omega, by dsimp only; omega⟩, hb⟩ (by dsimp only; omega)
      refine WP.join (fun _ => True) ?_ ?_
      · intro at_ _
        refine WP.call (rUp_sp _ _) fun x5 _ => ?_
        refine WP.bif (fun _ => ?_) (fun _ => hgo _ _ b3)
        refine WP.call (rrightG_sp _) fun x6 h6 => ?_
        refine WP.bif (fun wh => ?_) (fun _ => hgo _ _ b3)
        have hr := h6.1 wh
        refine WP.call (free_sp _ _ hl) fun x7 _ => ?_
        refine WP.bif (fun _ => ?_) (fun _ => hgo _ _ b3)
        refine WP.bif (fun _ => hgo _ _ fun _ => hr) (fun _ => ?_)
        refine WP.bif (fun _ => hgo _ _ fun _ => hr) (fun _ => hgo _ _ b3)
      · intro k1 hk1
        refine WP.bif (fun wh => ?_) (fun _ => hk1 _ trivial)
        rw [decide_eq_true_eq] at wh
        have hr := a3 t wh (by omega)
        unfold rgtP at hr
        refine WP.chk ⟨wh, htl⟩ fun _ => ?_
        refine WP.chk ⟨wh, htl⟩ fun _ => ?_
        refine WP.chk ⟨by omega, by omega⟩ fun _ => ?_
        exact hk1 _ trivial
    · refine WP.bif (fun _ => ?_) (fun wh => ?_)
      · exact WP.ret fun q => by simp at q
      · exact WP.ret fun _ => b3 (by simpa using wh)
theorem assign23_sp (s : List ASlot) (g : List (List Int)) (from_ : Int) (hg : ∀ x, inN x g.length → (atD g x).length ≤ 1000000) (hgl : g.length ≤ 1000000) : WP (r23_Assign s g from_) fun r => r.2 = 0 → r.1.length = s.length ∧ ∀ k, inN k s.length → 0 ≤ atD r.1 k ∧ atD r.1 k ≤ 2147483647 := by
  unfold r23_Assign
  by_cases hbig : 512 < s.length
  · refine WP.call (R := (· = 3)) ?_ ?_
    · unfold r03_Slots
      refine WP.bif (fun _ => WP.ret rfl) (fun wh => ?_)
      exfalso; simp only [decide_eq_false_iff_not] at wh; omega
    rintro _ rfl
    refine WP.bif (fun _ => WP.ret fun q => by simp at q) (fun wh => by simp at wh)
  refine WP.call (slots3_sp s (by omega)) ?_
  rintro _ rfl
  refine WP.bif (fun wh => ?_) (fun wh => ?_)
  · rw [Bool.not_eq_true', decide_eq_false_iff_not] at wh
    exact WP.ret fun q => (wh q).elim
  refine WP.call (R := fun b => b = true → (g.length : Int) = s.length) ?_ ?_
  · unfold r18_Check
    refine WP.bif (fun _ => WP.ret fun q => by cases q) (fun wh => ?_)
    rw [Bool.not_eq_false', decide_eq_true_eq] at wh
    have hgs := wh
    refine WP.loop (fun j => 0 ≤ j ∧ j ≤ s.length) (fun j => s.length - j.toNat) ⟨by omega, by omega⟩ ?_
    rintro again x ⟨a1, a2⟩ ih
    refine WP.bif (fun wh => ?_) (fun wh => ?_) <;> (try simp only [wpH, ne_eq] at wh)
    · have hxl := wh
      have hgx := hg x ⟨a1, by omega⟩
      refine WP.chk ⟨a1, by omega⟩ fun _ => ?_
      refine WP.call (check4_sp _ (by omega)) ?_
      rintro _ rfl
      refine WP.bif (fun _ => WP.ret fun q => by cases q) (fun wh => ?_)
      have hS := ascS_iff.1 (by simpa using wh)
      refine WP.chk ⟨a1, by omega⟩ fun _ => ?_
      refine WP.call (has_sp _ _ (by omega)) ?_
      rintro _ rfl
      refine WP.bif (fun _ => WP.ret fun q => by cases q) (fun _ => ?_)
      refine WP.loop (fun j => 0 ≤ j ∧ j ≤ (atD g x).length) (fun j => (atD g x).length - j.toNat) ⟨by omega, by omega⟩ ?_
      rintro again2 t ⟨b1, b2⟩ ih2
      refine WP.chk ⟨a1, by omega⟩ fun _ => ?_
      refine WP.bif (fun wh => ?_) (fun wh => ?_) <;> (try simp only [wpH, ne_eq] at wh)
      · have htl := wh
        have hr := hS.rng _ (atD_mem ⟨b1, wh⟩)
        refine WP.chk ⟨a1, by omega⟩ fun _ => ?_
        refine WP.chk ⟨b1, htl⟩ fun _ => ?_
        refine WP.bif (fun _ => WP.ret fun q => by cases q) (fun wh => ?_)
        simp only [decide_eq_false_iff_not, Int.not_le] at wh
        have hgy := hg (atD (atD g x) t) ⟨hr.1, by omega⟩
        refine WP.chk ⟨hr.1, by omega⟩ fun _ => ?_
        refine WP.call (has_sp _ _ (by omega)) ?_
        rintro _ rfl
        refine WP.bif (fun _ => WP.ret fun q => by cases q) (fun _ => ?_)
        refine WP.chk ⟨by omega, by omega⟩ fun _ => ?_
        exact ih2 _ ⟨by omega, by omega⟩ (by omega)
      · refine WP.chk ⟨by omega, by omega⟩ fun _ => ?_
        exact ih _ ⟨by omega, by omega⟩ (by omega)
    · exact WP.ret fun _ => hgs
  intro b hb
  refine WP.bif (fun wh => ?_) (fun wh => ?_)
  · exact WP.ret fun q => by simp at q
  have hgs := hb (by simpa using wh)
  refine WP.call (rbound_sp _) ?_
  rintro _ rfl
  refine WP.bif (fun wh => ?_) (fun wh => ?_)
  · exact WP.ret fun q => by simp at q
  refine WP.chk ⟨by omega, by omega⟩ fun _ => ?_
  refine WP.chk ⟨by omega, by omega⟩ fun _ => ?_
  refine WP.call (order23_sp s (by omega)) fun ord ⟨o1, o2⟩ => ?_
  have hrep : ∀ c : Int, atD (repD (s.length : Int) : List Int) c = 0 := fun c => by
    unfold atD repD
    rw [List.getD_eq_getElem?_getD, List.getElem?_replicate]
    split <;> rfl
  refine WP.loop (fun j => (0 ≤ j.1 ∧ j.1 ≤ ord.length) ∧ j.2.1.length = s.length ∧ j.2.2.length = s.length ∧ ∀ k, inN k s.length → 0 ≤ atD j.2.1 k ∧ atD j.2.1 k ≤ 2147483647) (fun j => ord.length - j.1.toNat) ⟨⟨by simp, by simp⟩, by dsimp only; rw [length_repD]; omega, by dsimp only; rw [length_repD]; omega, fun k _ => by dsimp only; rw [hrep]; omega⟩ ?_
  rintro again ⟨i, off, done⟩ ⟨⟨a1, a2⟩, a3, a4, a5⟩ ih
  dsimp only at a1 a2 a3 a4 a5 ih ⊢
  refine WP.bif (fun wh => ?_) (fun wh => ?_) <;> (try simp only [wpH, ne_eq] at wh)
  · have hil := wh
    obtain ⟨x1, x2⟩ := o2 _ (atD_mem ⟨a1, wh⟩)
    have hgx := hg (atD ord i) ⟨x1, by omega⟩
    refine WP.chk ⟨a1, wh⟩ fun _ => ?_
    refine WP.loop (fun j => (0 ≤ j.1 ∧ j.1 ≤ s.length) ∧ (j.2.length : Int) ≤ j.1) (fun j => s.length - j.1.toNat) ⟨⟨by simp, by simp⟩, by simp⟩ ?_
    rintro again2 ⟨y, used⟩ ⟨⟨b1, b2⟩, b3⟩ ih2
    dsimp only at b1 b2 b3 ih2 ⊢
    refine WP.bif (fun wh => ?_) (fun wh => ?_) <;> (try simp only [wpH, ne_eq] at wh)
    · have hyl := wh
      have hgo : WP (M.chk (okI (y + 1)) (again2 (y + 1, used))) _ := WP.chk ⟨by omega, by omega⟩ fun _ => ih2 _ ⟨⟨by dsimp only; omega, by dsimp only; omega⟩, by dsimp only; omega⟩ (by dsimp only; omega)
      refine WP.chk ⟨b1, by omega⟩ fun _ => ?_
      refine WP.bif (fun _ => ?_) (fun _ => hgo)
      refine WP.chk ⟨x1, by omega⟩ fun _ => ?_
      refine WP.call (has_sp _ _ (by omega)) ?_
      rintro _ rfl
      refine WP.bif (fun _ => ?_) (fun _ => hgo)
      refine WP.chk ⟨b1, by omega⟩ fun _ => ?_
      refine WP.chk ⟨b1, hyl⟩ fun _ => ?_
      refine WP.chk (by simp only [List.length_singleton]; omega) fun _ => ?_
      refine WP.chk ⟨by omega, by omega⟩ fun _ => ?_
      exact ih2 _ ⟨⟨by dsimp only; omega, by dsimp only; omega⟩, by simp only [List.length_append, List.length_singleton]; omega⟩ (by dsimp only; omega)
    · refine WP.chk ⟨x1, x2⟩ fun _ => ?_
      refine WP.chk ⟨x1, x2⟩ fun _ => ?_
      refine WP.call (fit_sp _ _ _ _ (by omega)) fun x6 h6 => ?_
      refine WP.bif (fun wh => ?_) (fun wh => ?_)
      · rw [Bool.not_eq_true', decide_eq_false_iff_not] at wh
        exact WP.ret fun q => (wh q).elim
      rw [Bool.not_eq_false', decide_eq_true_eq] at wh
      have hr := h6 wh
      unfold rgtP at hr
      dsimp only at hr
      refine WP.chk ⟨x1, by omega⟩ fun _ => ?_
      refine WP.chk ⟨x1, by omega⟩ fun _ => ?_
      refine WP.chk ⟨by omega, by omega⟩ fun _ => ?_
      refine ih _ ⟨⟨by dsimp only; omega, by dsimp only; omega⟩, by dsimp only; rw [length_setD, a3], by dsimp only; rw [length_setD, a4], fun k hk => ?_⟩ (by dsimp only; omega)
      dsimp only
      rw [atD_setD ⟨x1, by omega⟩ hk.1]
      split
      · omega
      · exact a5 k hk
  · exact WP.ret fun _ => ⟨a3, a5⟩
end Go.Proofs.YtjnfnochdefpjaaGreat.Q
