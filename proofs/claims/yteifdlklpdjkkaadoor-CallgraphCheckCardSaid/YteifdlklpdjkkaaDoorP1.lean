/- The drawn program: what holds of it. -/
import Derived.Test.YteifdlklpdjkkaaDoorGd
set_option linter.unusedVariables false
set_option linter.unusedSimpArgs false
namespace Go.Proofs.YteifdlklpdjkkaaDoor.Q
/-- What a branch is told of its condition. -/
theorem wpH : (∀ (p : Prop) [Decidable p], decide p = true ↔ p) ∧ (∀ (p : Prop) [Decidable p], decide p = false ↔ ¬p) ∧ (∀ b : Bool, ((!b) = true) ↔ (b = false)) ∧ (∀ b : Bool, ((!b) = false) ↔ (b = true)) ∧ (∀ a b : Bool, (a && b) = true ↔ a = true ∧ b = true) ∧ (∀ a b : Bool, (a || b) = true ↔ a = true ∨ b = true) ∧ (∀ b : Bool, ¬b = true ↔ b = false) ∧ (∀ b : Bool, ¬b = false ↔ b = true) ∧ (∀ a b : Int, ¬a < b ↔ b ≤ a) ∧ (∀ a b : Int, ¬a ≤ b ↔ b < a) := ⟨fun p _ => by rw [decide_eq_true_eq], fun p _ => decide_eq_false_iff_not, fun b => by cases b <;> simp, fun b => by cases b <;> simp, fun a b => by cases a <;> cases b <;> simp, fun a b => by cases a <;> cases b <;> simp, fun b => by cases b <;> simp, fun b => by cases b <;> simp, fun a b => Int.not_lt, fun a b => Int.not_le⟩
/-- Codes that can be read on. -/
structure okC (c : DCodes) : Prop where
  list : ∀ x ∈ c.list, 0 ≤ x ∧ x ≤ 255
  lo : 0 ≤ c.at_
  hi : c.at_ ≤ (c.list.length : Int)
  len : c.list.length ≤ 1000000
theorem okC.at' {c : DCodes} (h : okC c) (hl : c.at_ < (c.list.length : Int)) : 0 ≤ atD c.list c.at_ ∧ atD c.list c.at_ ≤ 255 := h.list _ (atD_mem ⟨h.lo, hl⟩)
theorem new_sp (l : List Int) (n : Int) (hl : ∀ x ∈ l, 0 ≤ x ∧ x ≤ 255) (hn : 0 ≤ n ∧ n ≤ 1000000) : WP (draw_New l n) okC := by
  unfold draw_New
  refine WP.chk (by omega) fun _ => WP.ret ⟨fun x hx => ?_, Int.le_refl _, ?_, ?_⟩
  · exact hl x (List.drop_subset _ _ (List.take_subset _ _ hx))
  · exact Int.natCast_nonneg _
  · simp only [sliceD, List.length_take, List.length_drop]; omega
theorem next_sp (c : DCodes) (n : Int) (hc : okC c) (hn : n ≤ 1000000) : WP (draw_Next c n) fun r => okC r.2 ∧ 0 ≤ r.1 ∧ (1 ≤ n → r.1 < n) ∧ (n < 1 → r.1 = 0) := by
  have h0 := hc.lo
  have h1 := hc.hi
  have h2 := hc.len
  unfold draw_Next draw_Left
  refine WP.call (R := fun a => a = (decide (c.at_ < (c.list.length : Int)), c)) (WP.ret rfl) ?_
  rintro _ rfl
  dsimp only
  refine WP.bif (fun wh => ?_) (fun wh => ?_) <;> (try simp only [wpH, ne_eq] at wh)
  · exact WP.ret ⟨hc, Int.le_refl _, fun h => by omega, fun _ => rfl⟩
  refine WP.bif (fun wh => ?_) (fun wh => ?_) <;> (try simp only [wpH, ne_eq] at wh)
  · exact WP.ret ⟨hc, Int.le_refl _, fun h => by omega, fun _ => rfl⟩
  have h3 := hc.at' (by assumption)
  generalize atD c.list c.at_ = v at h3
  have h4 : 0 ≤ v * n := Int.mul_nonneg h3.1 (by omega)
  have h5 : v * n ≤ 255 * n := Int.mul_le_mul_of_nonneg_right h3.2 (by omega)
  have h6 : v * n / 256 < n := Int.ediv_lt_of_lt_mul (by omega) (by omega)
  (repeat' (first | (refine WP.chk (by (first | omega | (simp only [okI, List.length_append, List.length_cons, List.length_nil, length_setD, length_repD] at *; omega))) fun _ => ?_) | ((refine WP.bif (fun wh => ?_) (fun wh => ?_)) <;> (try simp only [wpH, ne_eq] at wh) <;> (try (exfalso; omega)))))
  exact WP.ret ⟨⟨hc.list, by show 0 ≤ c.at_ + 1; omega, by show c.at_ + 1 ≤ (c.list.length : Int); omega, hc.len⟩, Int.ediv_nonneg h4 (by omega), fun _ => h6, fun h => by omega⟩
/-- A slot that is right. -/
def rightS (s : ASlot) : Prop := (s.Size = 1 ∨ s.Size = 2 ∨ s.Size = 4 ∨ s.Size = 8 ∨ s.Size = 16) ∧ (s.Align = 1 ∨ s.Align = 2 ∨ s.Align = 4 ∨ s.Align = 8 ∨ s.Align = 16 ∨ s.Align = 32 ∨ s.Align = 64)
theorem slot_sp (c : DCodes) (hc : okC c) : WP (draw_Slot c) fun r => okC r.2 ∧ rightS r.1 := by
  unfold draw_Slot
  refine WP.call (next_sp c 7 hc (by omega)) fun x1 ⟨h1, h2, h3, h4⟩ => ?_
  (repeat' (first | (refine WP.chk (by (first | omega | (simp only [okI, List.length_append, List.length_cons, List.length_nil, length_setD, length_repD] at *; omega))) fun _ => ?_) | ((refine WP.bif (fun wh => ?_) (fun wh => ?_)) <;> (try simp only [wpH, ne_eq] at wh) <;> (try (exfalso; omega)))))
  refine WP.call (next_sp _ 8 h1 (by omega)) fun x2 ⟨h5, h6, h7, h8⟩ => ?_
  (repeat' (first | (refine WP.chk (by (first | omega | (simp only [okI, List.length_append, List.length_cons, List.length_nil, length_setD, length_repD] at *; omega))) fun _ => ?_) | ((refine WP.bif (fun wh => ?_) (fun wh => ?_)) <;> (try simp only [wpH, ne_eq] at wh) <;> (try (exfalso; omega)))))
  refine WP.ret ⟨h5, ?_, ?_⟩
  · have : x1.1 = 0 ∨ x1.1 = 1 ∨ x1.1 = 2 ∨ x1.1 = 3 ∨ x1.1 = 4 ∨ x1.1 = 5 ∨ x1.1 = 6 := by omega
    rcases this with h | h | h | h | h | h | h <;> rw [h] <;> simp [atD]
  · have : x2.1 = 0 ∨ x2.1 = 1 ∨ x2.1 = 2 ∨ x2.1 = 3 ∨ x2.1 = 4 ∨ x2.1 = 5 ∨ x2.1 = 6 ∨ x2.1 = 7 := by omega
    rcases this with h | h | h | h | h | h | h | h <;> rw [h] <;> simp [atD]
theorem slots_sp (c : DCodes) (most : Int) (hc : okC c) (hm : 0 ≤ most ∧ most ≤ 1000) : WP (draw_Slots c most) fun r => okC r.2 ∧ (r.1.length : Int) ≤ most ∧ ∀ s ∈ r.1, rightS s := by
  unfold draw_Slots
  (repeat' (first | (refine WP.chk (by (first | omega | (simp only [okI, List.length_append, List.length_cons, List.length_nil, length_setD, length_repD] at *; omega))) fun _ => ?_) | ((refine WP.bif (fun wh => ?_) (fun wh => ?_)) <;> (try simp only [wpH, ne_eq] at wh) <;> (try (exfalso; omega)))))
  refine WP.call (next_sp c _ hc (by omega)) fun x1 ⟨h1, h2, h3, h4⟩ => ?_
  refine WP.loop (fun j => 0 ≤ j.1 ∧ okC j.2.1 ∧ j.1 + (j.2.2.length : Int) ≤ most ∧ ∀ s ∈ j.2.2, rightS s) (fun j => j.1.toNat) ⟨h2, h1, by simp; omega, by simp⟩ ?_
  rintro again ⟨n, c2, l⟩ ⟨h5, h6, h7, h8⟩ ih
  dsimp only at h5 h6 h7 h8 ih ⊢
  (repeat' (first | (refine WP.chk (by (first | omega | (simp only [okI, List.length_append, List.length_cons, List.length_nil, length_setD, length_repD] at *; omega))) fun _ => ?_) | ((refine WP.bif (fun wh => ?_) (fun wh => ?_)) <;> (try simp only [wpH, ne_eq] at wh) <;> (try (exfalso; omega)))))
  · refine WP.call (slot_sp c2 h6) fun x2 ⟨h9, h10⟩ => ?_
    (repeat' (first | (refine WP.chk (by (first | omega | (simp only [okI, List.length_append, List.length_cons, List.length_nil, length_setD, length_repD] at *; omega))) fun _ => ?_) | ((refine WP.bif (fun wh => ?_) (fun wh => ?_)) <;> (try simp only [wpH, ne_eq] at wh) <;> (try (exfalso; omega)))))
    refine ih _ ⟨by omega, h9, by simp; omega, ?_⟩ (by dsimp only; omega)
    intro s hs
    rcases List.mem_append.1 hs with hs | hs
    · exact h8 s hs
    · simp at hs; rw [hs]; exact h10
  · exact WP.ret ⟨h6, by dsimp only; omega, h8⟩
def inN (x n : Int) : Prop := 0 ≤ x ∧ x < n
theorem like_sp (c : DCodes) (f : AFunc) (s : Int) (hc : okC c) (hs : inN s f.Slots.length) (hl : f.Slots.length ≤ 1000) : WP (draw_like c f s) fun r => okC r.2 ∧ inN r.1 f.Slots.length ∧ (atD f.Slots r.1).Size = (atD f.Slots s).Size := by
  unfold draw_like
  obtain ⟨hs1, hs2⟩ := hs
  refine WP.loop (fun j => 0 ≤ j.1 ∧ j.1 ≤ f.Slots.length ∧ (j.2.length : Int) ≤ j.1 ∧ (s < j.1 → 1 ≤ j.2.length) ∧ ∀ x ∈ j.2, inN x f.Slots.length ∧ (atD f.Slots x).Size = (atD f.Slots s).Size) (fun j => f.Slots.length - j.1.toNat) ⟨by simp, by simp, by simp, by simp; omega, by simp⟩ ?_
  rintro again ⟨k, l⟩ ⟨h1, h2, h3, h4, h5⟩ ih
  dsimp only at h1 h2 h3 h4 h5 ih ⊢
  (repeat' (first | (refine WP.chk (by (first | omega | (simp only [okI, List.length_append, List.length_cons, List.length_nil, length_setD, length_repD] at *; omega))) fun _ => ?_) | ((refine WP.bif (fun wh => ?_) (fun wh => ?_)) <;> (try simp only [wpH, ne_eq] at wh) <;> (try (exfalso; omega)))))
  · refine ih _ ⟨by omega, by dsimp only; omega, by simp; omega, by simp, ?_⟩ (by dsimp only; omega)
    intro x hx
    rcases List.mem_append.1 hx with hx | hx
    · exact h5 x hx
    · simp at hx; rw [hx]; exact ⟨⟨by omega, by omega⟩, by assumption⟩
  · refine ih _ ⟨by omega, by dsimp only; omega, by dsimp only; omega, fun h => ?_, h5⟩ (by dsimp only; omega)
    dsimp only at h ⊢
    by_cases hsk : s = k
    · subst hsk; contradiction
    · exact h4 (by omega)
  · refine WP.call (next_sp c _ hc (by omega)) fun x1 ⟨h6, h7, h8, h9⟩ => ?_
    have h10 := h4 (by omega)
    (repeat' (first | (refine WP.chk (by (first | omega | (simp only [okI, List.length_append, List.length_cons, List.length_nil, length_setD, length_repD] at *; omega))) fun _ => ?_) | ((refine WP.bif (fun wh => ?_) (fun wh => ?_)) <;> (try simp only [wpH, ne_eq] at wh) <;> (try (exfalso; omega)))))
    exact WP.ret ⟨h6, h5 _ (atD_mem ⟨by omega, by omega⟩)⟩
theorem pow_64 {n : Int} (h0 : 0 ≤ n) (h1 : n < 64) : 0 ≤ (1 : Int) * 2 ^ n.toNat ∧ (1 : Int) * 2 ^ n.toNat ≤ 18446744073709551615 := by
  have h2 : 2 ^ n.toNat ≤ 2 ^ 63 := Nat.pow_le_pow_right (by decide) (by omega)
  have e : (1 : Int) * 2 ^ n.toNat = ((2 ^ n.toNat : Nat) : Int) := by rw [Int.one_mul, Int.natCast_pow]; rfl
  rw [e]
  exact ⟨Int.natCast_nonneg _, Int.le_trans (Int.ofNat_le.2 h2) (by decide)⟩
def wordR (n : Int) : Prop := 0 ≤ n ∧ n ≤ 18446744073709551615
theorem word_sp (c : DCodes) (hc : okC c) : WP (draw_Word c) fun r => okC r.2 ∧ wordR r.1 := by
  unfold draw_Word
  refine WP.call (next_sp c 6 hc (by omega)) fun x1 ⟨h1, h2, h3, h4⟩ => ?_
  (repeat' (first | (refine WP.chk (by (first | omega | (simp only [okI, List.length_append, List.length_cons, List.length_nil, length_setD, length_repD] at *; omega))) fun _ => ?_) | ((refine WP.bif (fun wh => ?_) (fun wh => ?_)) <;> (try simp only [wpH, ne_eq] at wh) <;> (try (exfalso; omega)))))
  · refine WP.call (next_sp _ 3 h1 (by omega)) fun x2 ⟨h5, h6, h7, h8⟩ => ?_
    (repeat' (first | (refine WP.chk (by (first | omega | (simp only [okI, List.length_append, List.length_cons, List.length_nil, length_setD, length_repD] at *; omega))) fun _ => ?_) | ((refine WP.bif (fun wh => ?_) (fun wh => ?_)) <;> (try simp only [wpH, ne_eq] at wh) <;> (try (exfalso; omega)))))
    exact WP.ret ⟨h5, by dsimp only; omega, by dsimp only; omega⟩
  · refine WP.call (next_sp _ 64 h1 (by omega)) fun x2 ⟨h5, h6, h7, h8⟩ => ?_
    have := pow_64 h6 (h7 (by omega))
    refine WP.chk ⟨by omega, by omega, this⟩ fun _ => ?_
    exact WP.ret ⟨h5, this⟩
  · exact WP.ret ⟨h1, by dsimp only; omega, by dsimp only; omega⟩
  · refine WP.call (next_sp _ 256 h1 (by omega)) fun x2 ⟨h5, h6, h7, h8⟩ => ?_
    (repeat' (first | (refine WP.chk (by (first | omega | (simp only [okI, List.length_append, List.length_cons, List.length_nil, length_setD, length_repD] at *; omega))) fun _ => ?_) | ((refine WP.bif (fun wh => ?_) (fun wh => ?_)) <;> (try simp only [wpH, ne_eq] at wh) <;> (try (exfalso; omega)))))
    exact WP.ret ⟨h5, by dsimp only; omega, by dsimp only; omega⟩
/-- Where ways meet in a choice. -/
theorem WP.join_and {α : Type} {K : Bool → M α} {p q : Bool} {Q : α → Prop} (h : WP (K (p && q)) Q) : WP (M.join K fun k => M.bif p (k q) (k false)) Q := by
  refine WP.join0 (WP.bif (fun hp => ?_) fun hp => ?_) <;> rw [hp] at h <;> simpa using h
theorem WP.join_or {α : Type} {K : Bool → M α} {p q : Bool} {Q : α → Prop} (h : WP (K (p || q)) Q) : WP (M.join K fun k => M.bif p (k true) (k q)) Q := by
  refine WP.join0 (WP.bif (fun hp => ?_) fun hp => ?_) <;> rw [hp] at h <;> simpa using h
def reg (n : Int) : Prop := 0 ≤ n ∧ n < 8
/-- An instruction of function i of n functions that is right; J: where it may jump to. -/
inductive WfI (n i par : Int) (sl : List ASlot) (J : Int → Prop) : AInstr → Prop
  | const (a w : Int) (ha : reg a) (hw : wordR w) : WfI n i par sl J ⟨0, a, 0, 0, w⟩
  | copy (o a b : Int) (ho : o = 1 ∨ o = 12) (ha : reg a) (hb : reg b) : WfI n i par sl J ⟨o, a, b, 0, 0⟩
  | arith (o a b c : Int) (h1 : 2 ≤ o) (h2 : o ≤ 11) (ha : reg a) (hb : reg b) (hc : reg c) : WfI n i par sl J ⟨o, a, b, c, 0⟩
  | io (o a : Int) (ho : o = 13 ∨ o = 14) (ha : reg a) : WfI n i par sl J ⟨o, a, 0, 0, 0⟩
  | load (a s : Int) (ha : reg a) (hs : inN s sl.length) : WfI n i par sl J ⟨15, a, s, 0, 0⟩
  | store (s a : Int) (hs : inN s sl.length) (ha : reg a) : WfI n i par sl J ⟨16, s, a, 0, 0⟩
  | move (s t : Int) (hs : inN s sl.length) (ht : inN t sl.length) (he : (atD sl s).Size = (atD sl t).Size) : WfI n i par sl J ⟨17, s, t, 0, 0⟩
  | arg (a r : Int) (ha : reg a) (hr : reg r) : WfI n i par sl J ⟨18, a, r, 0, 0⟩
  | param (a k : Int) (ha : reg a) (hk : inN k par) : WfI n i par sl J ⟨19, a, k, 0, 0⟩
  | jump (t : Int) (ht : J t) : WfI n i par sl J ⟨20, t, 0, 0, 0⟩
  | branch (a t : Int) (ha : reg a) (ht : J t) : WfI n i par sl J ⟨21, a, t, 0, 0⟩
  | call (f : Int) (h1 : i < f) (h2 : f < n) : WfI n i par sl J ⟨22, f, 0, 0, 0⟩
  | ret : WfI n i par sl J ⟨23, 0, 0, 0, 0⟩
  | trap (w : Int) (hw : wordR w) : WfI n i par sl J ⟨24, 0, 0, 0, w⟩
/-- The parameters of the functions. -/
def parR (ps : List Int) : Prop := ps.length ≤ 1000 ∧ ∀ x ∈ ps, 0 ≤ x ∧ x ≤ 3
theorem one_mem {α : Type} {x y : α} (h : x ∈ [y]) : x = y := by simpa using h
theorem body_sp (c : DCodes) (f : AFunc) (i : Int) (ps : List Int) (hc : okC c) (hf : f.Slots.length ≤ 1000) (hp : f.Params ≤ 1000) (hi : 0 ≤ i ∧ i ≤ 1000) (hps : parR ps) : WP (draw_body c f i ps) fun r => okC r.2 ∧ r.1.length ≤ 4 ∧ ∀ x ∈ r.1, WfI ps.length i f.Params f.Slots (fun t => t = -1) x := by
  obtain ⟨hp1, hp2⟩ := hps
  unfold draw_body
  refine WP.call (next_sp c 4 hc (by omega)) fun x1 ⟨h1, h2, h3, _⟩ => ?_
  have hr : reg x1.1 := ⟨h2, by have := h3 (by omega); omega⟩
  refine WP.call (next_sp _ 20 h1 (by omega)) fun x2 ⟨h5, h6, h7, _⟩ => ?_
  refine WP.join_and (WP.bif (fun wh => ?_) (fun wh => ?_)) <;> (try simp only [wpH, ne_eq] at wh)
  · refine WP.call (next_sp _ _ h5 (by omega)) fun x4 ⟨a1, a2, a3, _⟩ => WP.ret ⟨a1, by simp, fun x hx => ?_⟩
    rw [one_mem hx]
    exact .store _ _ ⟨a2, a3 (by omega)⟩ hr
  refine WP.join_and (WP.bif (fun wh => ?_) (fun wh => ?_)) <;> (try simp only [wpH, ne_eq] at wh)
  · refine WP.call (next_sp _ _ h5 (by omega)) fun x4 ⟨a1, a2, a3, _⟩ => WP.ret ⟨a1, by simp, fun x hx => ?_⟩
    rw [one_mem hx]
    exact .load _ _ hr ⟨a2, a3 (by omega)⟩
  refine WP.join_and (WP.bif (fun wh => ?_) (fun wh => ?_)) <;> (try simp only [wpH, ne_eq] at wh)
  · refine WP.call (next_sp _ _ h5 (by omega)) fun x4 ⟨a1, a2, a3, _⟩ => ?_
    refine WP.call (like_sp _ f _ a1 ⟨a2, a3 (by omega)⟩ hf) fun x5 ⟨b1, b2, b3⟩ => WP.ret ⟨b1, by simp, fun x hx => ?_⟩
    rw [one_mem hx]
    exact .move _ _ b2 ⟨a2, a3 (by omega)⟩ b3
  refine WP.bif (fun wh => ?_) (fun wh => ?_) <;> (try simp only [wpH, ne_eq] at wh)
  · refine WP.call (word_sp _ h5) fun x4 ⟨a1, a2⟩ => WP.ret ⟨a1, by simp, fun x hx => ?_⟩
    rw [one_mem hx]
    exact .const _ _ hr a2
  refine WP.bif (fun wh => ?_) (fun wh => ?_) <;> (try simp only [wpH, ne_eq] at wh)
  · refine WP.call (next_sp _ 10 h5 (by omega)) fun x4 ⟨a1, a2, a3, _⟩ => ?_
    (repeat' (first | (refine WP.chk (by (first | omega | (simp only [okI, List.length_append, List.length_cons, List.length_nil, length_setD, length_repD] at *; omega))) fun _ => ?_) | ((refine WP.bif (fun wh => ?_) (fun wh => ?_)) <;> (try simp only [wpH, ne_eq] at wh) <;> (try (exfalso; omega)))))
    refine WP.call (next_sp _ 4 a1 (by omega)) fun x5 ⟨b1, b2, b3, _⟩ => ?_
    refine WP.call (next_sp _ 8 b1 (by omega)) fun x6 ⟨c1, c2, c3, _⟩ => WP.ret ⟨c1, by simp, fun x hx => ?_⟩
    rw [one_mem hx]
    exact .arith _ _ _ _ (by omega) (by omega) hr ⟨b2, by omega⟩ ⟨c2, by omega⟩
  refine WP.bif (fun wh => ?_) (fun wh => ?_) <;> (try simp only [wpH, ne_eq] at wh)
  · refine WP.ret ⟨h5, by simp, fun x hx => ?_⟩
    rw [one_mem hx]
    exact .io _ _ (.inr rfl) hr
  refine WP.bif (fun wh => ?_) (fun wh => ?_) <;> (try simp only [wpH, ne_eq] at wh)
  · refine WP.call (next_sp _ 3 h5 (by omega)) fun x4 ⟨a1, a2, a3, _⟩ => ?_
    (repeat' (first | (refine WP.chk (by (first | omega | (simp only [okI, List.length_append, List.length_cons, List.length_nil, length_setD, length_repD] at *; omega))) fun _ => ?_) | ((refine WP.bif (fun wh => ?_) (fun wh => ?_)) <;> (try simp only [wpH, ne_eq] at wh) <;> (try (exfalso; omega)))))
    refine WP.ret ⟨a1, by simp, fun x hx => ?_⟩
    rw [one_mem hx]
    have : x4.1 = 0 ∨ x4.1 = 1 ∨ x4.1 = 2 := by omega
    have h0 : reg 0 := ⟨by omega, by omega⟩
    rcases this with h | h | h <;> rw [h]
    · exact .io _ _ (.inl rfl) hr
    · exact .copy _ _ _ (.inr rfl) hr h0
    · exact .copy _ _ _ (.inl rfl) hr h0
  refine WP.join_and (WP.bif (fun wh => ?_) (fun wh => ?_)) <;> (try simp only [wpH, ne_eq] at wh)
  · refine WP.call (next_sp _ _ h5 (by omega)) fun x4 ⟨a1, a2, a3, _⟩ => WP.ret ⟨a1, by simp, fun x hx => ?_⟩
    rw [one_mem hx]
    exact .param _ _ hr ⟨a2, a3 (by omega)⟩
  (repeat' (first | (refine WP.chk (by (first | omega | (simp only [okI, List.length_append, List.length_cons, List.length_nil, length_setD, length_repD] at *; omega))) fun _ => ?_) | ((refine WP.bif (fun wh => ?_) (fun wh => ?_)) <;> (try simp only [wpH, ne_eq] at wh) <;> (try (exfalso; omega)))))
  · refine WP.call (next_sp _ _ h5 (by omega)) fun x4 ⟨a1, a2, a3, _⟩ => ?_
    have a4 := a3 (by omega)
    (repeat' (first | (refine WP.chk (by (first | omega | (simp only [okI, List.length_append, List.length_cons, List.length_nil, length_setD, length_repD] at *; omega))) fun _ => ?_) | ((refine WP.bif (fun wh => ?_) (fun wh => ?_)) <;> (try simp only [wpH, ne_eq] at wh) <;> (try (exfalso; omega)))))
    generalize hJ : (i + 1 + x4.1) = J
    have hpj := hp2 (atD ps J) (atD_mem ⟨by omega, by omega⟩)
    refine WP.loop (fun j => 0 ≤ j.1 ∧ j.1 ≤ 3 ∧ okC j.2.1 ∧ (j.2.2.length : Int) ≤ j.1 ∧ ∀ x ∈ j.2.2, WfI ps.length i f.Params f.Slots (fun t => t = -1) x) (fun j => 3 - j.1.toNat) ⟨by simp, by simp, a1, by simp, by simp⟩ ?_
    rintro again ⟨a, c2, out⟩ ⟨b1, b2, b3, b4, b5⟩ ih
    dsimp only at b1 b2 b3 b4 b5 ih ⊢
    (repeat' (first | (refine WP.chk (by (first | omega | (simp only [okI, List.length_append, List.length_cons, List.length_nil, length_setD, length_repD] at *; omega))) fun _ => ?_) | ((refine WP.bif (fun wh => ?_) (fun wh => ?_)) <;> (try simp only [wpH, ne_eq] at wh) <;> (try (exfalso; omega)))))
    · refine WP.call (next_sp _ 8 b3 (by omega)) fun x5 ⟨d1, d2, d3, _⟩ => ?_
      (repeat' (first | (refine WP.chk (by (first | omega | (simp only [okI, List.length_append, List.length_cons, List.length_nil, length_setD, length_repD] at *; omega))) fun _ => ?_) | ((refine WP.bif (fun wh => ?_) (fun wh => ?_)) <;> (try simp only [wpH, ne_eq] at wh) <;> (try (exfalso; omega)))))
      · refine WP.call (next_sp _ 4 d1 (by omega)) fun x6 ⟨e1, e2, e3, _⟩ => ?_
        (repeat' (first | (refine WP.chk (by (first | omega | (simp only [okI, List.length_append, List.length_cons, List.length_nil, length_setD, length_repD] at *; omega))) fun _ => ?_) | ((refine WP.bif (fun wh => ?_) (fun wh => ?_)) <;> (try simp only [wpH, ne_eq] at wh) <;> (try (exfalso; omega)))))
        refine ih _ ⟨by dsimp only; omega, by dsimp only; omega, e1, by simp; omega, fun x hx => ?_⟩ (by dsimp only; omega)
        rcases List.mem_append.1 hx with hx | hx
        · exact b5 x hx
        · rw [one_mem hx]; exact .arg _ _ ⟨by omega, by omega⟩ ⟨e2, by omega⟩
      · exact ih _ ⟨by dsimp only; omega, by dsimp only; omega, d1, by dsimp only; omega, b5⟩ (by dsimp only; omega)
    · refine WP.ret ⟨b3, by simp; omega, fun x hx => ?_⟩
      rcases List.mem_append.1 hx with hx | hx
      · exact b5 x hx
      · rw [one_mem hx]; exact .call _ (by omega) (by omega)
  all_goals (refine WP.ret ⟨h5, by simp, fun x hx => ?_⟩; rw [one_mem hx]; exact .io _ _ (.inr rfl) hr)
/-- A function that is right in its program. -/
structure WfF (n i par : Int) (f : AFunc) : Prop where
  parq : f.Params = par
  slots : f.Slots.length ≤ 6
  rightS : ∀ s ∈ f.Slots, rightS s
  code : 1 ≤ f.Code.length ∧ f.Code.length ≤ 800
  instr : ∀ x ∈ f.Code, WfI n i par f.Slots (fun t => inN t f.Code.length) x
  last : (atD f.Code ((f.Code.length : Int) - 1)).Op = 23 ∨ (atD f.Code ((f.Code.length : Int) - 1)).Op = 24
theorem WfI.mono {n i par : Int} {sl : List ASlot} {J J' : Int → Prop} {x : AInstr} (h : WfI n i par sl J x) (hJ : ∀ t, J t → J' t) : WfI n i par sl J' x := by
  cases h with
  | const a w h1 h2 => exact .const a w h1 h2
  | copy o a b h1 h2 h3 => exact .copy o a b h1 h2 h3
  | arith o a b c h1 h2 h3 h4 h5 => exact .arith o a b c h1 h2 h3 h4 h5
  | io o a h1 h2 => exact .io o a h1 h2
  | load a s h1 h2 => exact .load a s h1 h2
  | store s a h1 h2 => exact .store s a h1 h2
  | move s t h1 h2 h3 => exact .move s t h1 h2 h3
  | arg a r h1 h2 => exact .arg a r h1 h2
  | param a k h1 h2 => exact .param a k h1 h2
  | jump t h1 => exact .jump t (hJ t h1)
  | branch a t h1 h2 => exact .branch a t h1 (hJ t h2)
  | call f h1 h2 => exact .call f h1 h2
  | ret => exact .ret
  | trap w h1 => exact .trap w h1
/-- An instruction that does not jump to -1 any more. -/
theorem WfI.done {n i par : Int} {sl : List ASlot} {J : Int → Prop} {x : AInstr} (h : WfI n i par sl (fun t => t = -1) x) (q1 : x.Op = 20 → 0 ≤ x.A) (q2 : x.Op = 21 → 0 ≤ x.B) : WfI n i par sl J x := by
  cases h with
  | const a w h1 h2 => exact .const a w h1 h2
  | copy o a b h1 h2 h3 => exact .copy o a b h1 h2 h3
  | arith o a b c h1 h2 h3 h4 h5 => exact .arith o a b c h1 h2 h3 h4 h5
  | io o a h1 h2 => exact .io o a h1 h2
  | load a s h1 h2 => exact .load a s h1 h2
  | store s a h1 h2 => exact .store s a h1 h2
  | move s t h1 h2 h3 => exact .move s t h1 h2 h3
  | arg a r h1 h2 => exact .arg a r h1 h2
  | param a k h1 h2 => exact .param a k h1 h2
  | jump t ht => have := q1 rfl; dsimp only at this ht; omega
  | branch a t ha ht => have := q2 rfl; dsimp only at this ht; omega
  | call f h1 h2 => exact .call f h1 h2
  | ret => exact .ret
  | trap w h1 => exact .trap w h1
theorem WfI.jmp {n i par : Int} {sl : List ASlot} {J J' : Int → Prop} {x : AInstr} (h : WfI n i par sl J x) (ho : x.Op = 20) (t : Int) (ht : J' t) : WfI n i par sl J' ⟨x.Op, t, x.B, x.C, x.Imm⟩ := by
  cases h <;> first | exact .jump _ ht | (simp at ho; done) | (exfalso; dsimp only at ho; omega)
theorem WfI.brn {n i par : Int} {sl : List ASlot} {J J' : Int → Prop} {x : AInstr} (h : WfI n i par sl J x) (ho : x.Op = 21) (t : Int) (ht : J' t) : WfI n i par sl J' ⟨x.Op, x.A, t, x.C, x.Imm⟩ := by
  cases h <;> first | (exact .branch _ _ (by assumption) ht) | (simp at ho; done) | (exfalso; dsimp only at ho; omega)
theorem atD_append_left {α : Type} [Inhabited α] {l m : List α} {i : Int} (h : i.toNat < l.length) : atD (l ++ m) i = atD l i := by
  unfold atD
  rw [List.getD_eq_getElem?_getD, List.getD_eq_getElem?_getD, List.getElem?_append_left h]
theorem atD_last {α : Type} [Inhabited α] {l : List α} {x : α} {i : Int} (h : i = (l.length : Int)) : atD (l ++ [x]) i = x := by
  subst h
  unfold atD
  rw [List.getD_eq_getElem?_getD, Int.toNat_natCast, List.getElem?_append_right (Nat.le_refl _)]
  simp
theorem atD_setD {α : Type} [Inhabited α] {l : List α} {i j : Int} {v : α} (hi : 0 ≤ i ∧ i < (l.length : Int)) (hj : 0 ≤ j) : atD (setD l i v) j = if j = i then v else atD l j := by
  unfold atD setD
  rw [List.getD_eq_getElem?_getD, List.getD_eq_getElem?_getD, List.getElem?_set]
  by_cases h : j = i
  · subst h; rw [if_pos rfl, if_pos rfl, if_pos (by omega)]; rfl
  · rw [if_neg h, if_neg (by omega)]
theorem mem_atD {α : Type} [Inhabited α] {l : List α} {x : α} (h : x ∈ l) : ∃ i : Int, 0 ≤ i ∧ i < (l.length : Int) ∧ atD l i = x := by
  obtain ⟨n, hn, rfl⟩ := List.getElem_of_mem h
  exact ⟨n, by omega, by omega, atD_nat hn⟩
theorem function_sp (c : DCodes) (i : Int) (ps : List Int) (most : Int) (hc : okC c) (hi : inN i ps.length) (hm : 0 ≤ most ∧ most ≤ 100) (hps : parR ps) : WP (draw_function c i ps most) fun r => okC r.2 ∧ WfF ps.length i (atD ps i) r.1 := by
  have hps1 := hps.1
  have hpar := hps.2 _ (atD_mem hi)
  obtain ⟨hi1, hi2⟩ := hi
  unfold draw_function
  (repeat' (first | (refine WP.chk (by (first | omega | (simp only [okI, List.length_append, List.length_cons, List.length_nil, length_setD, length_repD] at *; omega))) fun _ => ?_) | ((refine WP.bif (fun wh => ?_) (fun wh => ?_)) <;> (try simp only [wpH, ne_eq] at wh) <;> (try (exfalso; omega)))))
  refine WP.call (slots_sp c 6 hc (by omega)) fun x1 ⟨h1, h2, h3⟩ => ?_
  dsimp only
  refine WP.loop (fun j => 0 ≤ j.1 ∧ okC j.2.1 ∧ (j.2.2.length : Int) ≤ j.1 ∧ j.1 ≤ x1.1.length ∧ ∀ x ∈ j.2.2, WfI ps.length i (atD ps i) x1.1 (fun t => t = -1) x) (fun j => x1.1.length - j.1.toNat) ⟨by simp, h1, by simp, by simp, by simp⟩ ?_
  rintro again1 ⟨s, c2, code⟩ ⟨a1, a2, a3, a4, a5⟩ ih1
  dsimp only at a1 a2 a3 a4 a5 ih1 ⊢
  refine WP.bif (fun wh => ?_) (fun wh => ?_) <;> (try simp only [wpH, ne_eq] at wh)
  · refine WP.call (next_sp _ 4 a2 (by omega)) fun x2 ⟨b1, b2, b3, _⟩ => ?_
    (repeat' (first | (refine WP.chk (by (first | omega | (simp only [okI, List.length_append, List.length_cons, List.length_nil, length_setD, length_repD] at *; omega))) fun _ => ?_) | ((refine WP.bif (fun wh => ?_) (fun wh => ?_)) <;> (try simp only [wpH, ne_eq] at wh) <;> (try (exfalso; omega)))))
    · refine WP.call (next_sp _ 4 b1 (by omega)) fun x3 ⟨d1, d2, d3, _⟩ => ?_
      (repeat' (first | (refine WP.chk (by (first | omega | (simp only [okI, List.length_append, List.length_cons, List.length_nil, length_setD, length_repD] at *; omega))) fun _ => ?_) | ((refine WP.bif (fun wh => ?_) (fun wh => ?_)) <;> (try simp only [wpH, ne_eq] at wh) <;> (try (exfalso; omega)))))
      refine ih1 _ ⟨by dsimp only; omega, d1, by simp; omega, by dsimp only; omega, fun x hx => ?_⟩ (by dsimp only; omega)
      rcases List.mem_append.1 hx with hx | hx
      · exact a5 x hx
      · rw [one_mem hx]; exact .store _ _ ⟨a1, by omega⟩ ⟨d2, by omega⟩
    · exact ih1 _ ⟨by dsimp only; omega, b1, by dsimp only; omega, by dsimp only; omega, a5⟩ (by dsimp only; omega)
  (repeat' (first | (refine WP.chk (by (first | omega | (simp only [okI, List.length_append, List.length_cons, List.length_nil, length_setD, length_repD] at *; omega))) fun _ => ?_) | ((refine WP.bif (fun wh => ?_) (fun wh => ?_)) <;> (try simp only [wpH, ne_eq] at wh) <;> (try (exfalso; omega)))))
  refine WP.call (next_sp _ _ a2 (by omega)) fun x4 ⟨b1, b2, b3, _⟩ => ?_
  refine WP.loop (fun j => 0 ≤ j.1 ∧ okC j.2.1 ∧ (j.2.2.length : Int) + 5 * j.1 ≤ 600 ∧ ∀ x ∈ j.2.2, WfI ps.length i (atD ps i) x1.1 (fun t => t = -1) x) (fun j => j.1.toNat) ⟨b2, b1, by dsimp only; omega, a5⟩ ?_
  rintro again2 ⟨n2, c3, code2⟩ ⟨d1, d2, d3, d4⟩ ih2
  dsimp only at d1 d2 d3 d4 ih2 ⊢
  refine WP.bif (fun wh => ?_) (fun wh => ?_) <;> (try simp only [wpH, ne_eq] at wh)
  · refine WP.call (body_sp c3 ⟨atD ps i, x1.1, []⟩ i ps d2 (by dsimp only; omega) (by dsimp only; omega) (by omega) hps) fun x5 ⟨e1, e2, e3⟩ => ?_
    have e4 : ∀ x ∈ code2 ++ x5.1, WfI ps.length i (atD ps i) x1.1 (fun t => t = -1) x := fun x hx => (List.mem_append.1 hx).elim (d4 x) (e3 x)
    (repeat' (first | (refine WP.chk (by (first | omega | (simp only [okI, List.length_append, List.length_cons, List.length_nil, length_setD, length_repD] at *; omega))) fun _ => ?_) | ((refine WP.bif (fun wh => ?_) (fun wh => ?_)) <;> (try simp only [wpH, ne_eq] at wh) <;> (try (exfalso; omega)))))
    refine WP.call (next_sp _ 9 e1 (by omega)) fun x6 ⟨f1, f2, f3, _⟩ => ?_
    (repeat' (first | (refine WP.chk (by (first | omega | (simp only [okI, List.length_append, List.length_cons, List.length_nil, length_setD, length_repD] at *; omega))) fun _ => ?_) | ((refine WP.bif (fun wh => ?_) (fun wh => ?_)) <;> (try simp only [wpH, ne_eq] at wh) <;> (try (exfalso; omega)))))
    · refine WP.call (next_sp _ 4 f1 (by omega)) fun x7 ⟨g1, g2, g3, _⟩ => ?_
      (repeat' (first | (refine WP.chk (by (first | omega | (simp only [okI, List.length_append, List.length_cons, List.length_nil, length_setD, length_repD] at *; omega))) fun _ => ?_) | ((refine WP.bif (fun wh => ?_) (fun wh => ?_)) <;> (try simp only [wpH, ne_eq] at wh) <;> (try (exfalso; omega)))))
      refine ih2 _ ⟨by dsimp only; omega, g1, by simp; omega, fun x hx => ?_⟩ (by dsimp only; omega)
      rcases List.mem_append.1 hx with hx | hx
      · exact e4 x hx
      · rw [one_mem hx]; exact .branch _ _ ⟨g2, by omega⟩ rfl
    · refine WP.call (next_sp _ 3 f1 (by omega)) fun x8 ⟨g1, g2, g3, _⟩ => ?_
      (repeat' (first | (refine WP.chk (by (first | omega | (simp only [okI, List.length_append, List.length_cons, List.length_nil, length_setD, length_repD] at *; omega))) fun _ => ?_) | ((refine WP.bif (fun wh => ?_) (fun wh => ?_)) <;> (try simp only [wpH, ne_eq] at wh) <;> (try (exfalso; omega)))))
      · refine ih2 _ ⟨by dsimp only; omega, g1, by simp; omega, fun x hx => ?_⟩ (by dsimp only; omega)
        rcases List.mem_append.1 hx with hx | hx
        · exact e4 x hx
        · rw [one_mem hx]; exact .jump _ rfl
      · exact ih2 _ ⟨by dsimp only; omega, g1, by simp; omega, e4⟩ (by dsimp only; omega)
    · exact ih2 _ ⟨by dsimp only; omega, f1, by simp; omega, e4⟩ (by dsimp only; omega)
  refine WP.join (fun j => okC j.1 ∧ WfI ps.length i (atD ps i) x1.1 (fun t => t = -1) ⟨j.2.1, 0, 0, 0, j.2.2⟩ ∧ (j.2.1 = 23 ∨ j.2.1 = 24)) ?_ ?_
  · rintro ⟨c4, o, w⟩ ⟨e1, e2, e3⟩
    dsimp only at e1 e2 e3 ⊢
    (repeat' (first | (refine WP.chk (by (first | omega | (simp only [okI, List.length_append, List.length_cons, List.length_nil, length_setD, length_repD] at *; omega))) fun _ => ?_) | ((refine WP.bif (fun wh => ?_) (fun wh => ?_)) <;> (try simp only [wpH, ne_eq] at wh) <;> (try (exfalso; omega)))))
    generalize hL : code2.length + 1 = L
    have hlen : (code2 ++ [(⟨o, 0, 0, 0, w⟩ : AInstr)]).length = L := by simp [hL]
    refine WP.loop (fun j => 0 ≤ j.1 ∧ okC j.2.1 ∧ j.1 ≤ L ∧ j.2.2.length = L ∧ (∀ t : Int, 0 ≤ t → t < j.1 → WfI ps.length i (atD ps i) x1.1 (fun t => inN t L) (atD j.2.2 t)) ∧ (∀ t : Int, j.1 ≤ t → t < L → WfI ps.length i (atD ps i) x1.1 (fun t => t = -1) (atD j.2.2 t)) ∧ ((atD j.2.2 ((L : Int) - 1)).Op = 23 ∨ (atD j.2.2 ((L : Int) - 1)).Op = 24)) (fun j => L - j.1.toNat) ⟨by simp, e1, by dsimp only; omega, hlen, by intro t h1 h2; dsimp only at h2; omega, ?_, ?_⟩ ?_
    · intro t h1 h2
      dsimp only at h1 ⊢
      by_cases ht : t = (code2.length : Int)
      · rw [atD_last ht]; exact e2
      · rw [atD_append_left (by omega)]; exact d4 _ (atD_mem ⟨h1, by omega⟩)
    · dsimp only
      rw [atD_last (by omega)]
      exact e3
    rintro again3 ⟨k, c5, code3⟩ ⟨f1, f2, f3, f4, f5, f6, f7⟩ ih3
    dsimp only at f1 f2 f3 f4 f5 f6 f7 ih3 ⊢
    have fin : ∀ (c6 : DCodes) (v : AInstr), okC c6 → k < L → WfI ps.length i (atD ps i) x1.1 (fun t => inN t L) v → v.Op = (atD code3 k).Op → ∀ (hh : ∀ j', (0 ≤ j'.1 ∧ okC j'.2.1 ∧ j'.1 ≤ (L : Int) ∧ j'.2.2.length = L ∧ (∀ t : Int, 0 ≤ t → t < j'.1 → WfI ps.length i (atD ps i) x1.1 (fun t => inN t L) (atD j'.2.2 t)) ∧ (∀ t : Int, j'.1 ≤ t → t < L → WfI ps.length i (atD ps i) x1.1 (fun t => t = -1) (atD j'.2.2 t)) ∧ ((atD j'.2.2 ((L : Int) - 1)).Op = 23 ∨ (atD j'.2.2 ((L : Int) - 1)).Op = 24)) → L - j'.1.toNat < L - k.toNat → WP (again3 j') fun r => okC r.2 ∧ WfF ps.length i (atD ps i) r.1), WP (again3 (k + 1, c6, setD code3 k v)) fun r => okC r.2 ∧ WfF ps.length i (atD ps i) r.1 := by
      intro c6 v q1 q2 q3 q4 hh
      refine hh _ ⟨by dsimp only; omega, q1, by dsimp only; omega, by dsimp only; rw [length_setD, f4], fun t h1 h2 => ?_, fun t h1 h2 => ?_, ?_⟩ (by dsimp only; omega)
      · dsimp only at h2 ⊢
        rw [atD_setD ⟨f1, by omega⟩ h1]
        split
        · exact q3
        · exact f5 t h1 (by omega)
      · dsimp only at h1 ⊢
        rw [atD_setD ⟨f1, by omega⟩ (by omega), if_neg (by omega)]
        exact f6 t (by omega) h2
      · dsimp only
        rw [atD_setD ⟨f1, by omega⟩ (by omega)]
        split
        · rename_i h; rw [q4, ← h]; exact f7
        · exact f7
    have fin2 : ∀ (c6 : DCodes), okC c6 → k < L → WfI ps.length i (atD ps i) x1.1 (fun t => inN t L) (atD code3 k) → WP (again3 (k + 1, c6, code3)) fun r => okC r.2 ∧ WfF ps.length i (atD ps i) r.1 := by
      intro c6 q1 q2 q3
      refine ih3 _ ⟨by dsimp only; omega, q1, by dsimp only; omega, f4, fun t h1 h2 => ?_, fun t h1 h2 => ?_, f7⟩ (by dsimp only; omega)
      · dsimp only at h2
        by_cases ht : t = k
        · rw [ht]; exact q3
        · exact f5 t h1 (by omega)
      · dsimp only at h1; exact f6 t (by omega) h2
    refine WP.bif (fun wh => ?_) (fun wh => ?_) <;> (try simp only [wpH, ne_eq] at wh)
    · rw [f4] at wh
      have hkL := wh
      have f8 := f6 k (by omega) wh
      refine WP.call (next_sp _ 8 f2 (by omega)) fun x9 ⟨g1, g2, g3, _⟩ => ?_
      (repeat' (first | (refine WP.chk (by (first | omega | (simp only [okI, List.length_append, List.length_cons, List.length_nil, length_setD, length_repD] at *; omega))) fun _ => ?_) | ((refine WP.bif (fun wh => ?_) (fun wh => ?_)) <;> (try simp only [wpH, ne_eq] at wh) <;> (try (exfalso; omega)))))
      refine WP.join (fun t => inN t L) ?_ ?_
      · intro t ht
        (repeat' (first | (refine WP.chk (by (first | omega | (simp only [okI, List.length_append, List.length_cons, List.length_nil, length_setD, length_repD] at *; omega))) fun _ => ?_) | ((refine WP.bif (fun wh => ?_) (fun wh => ?_)) <;> (try simp only [wpH, ne_eq] at wh) <;> (try (exfalso; omega)))))
        · exact fin _ _ g1 hkL (f8.jmp (by assumption) t ht) rfl ih3
        · exact fin2 _ g1 hkL (f8.done (fun _ => by omega) (fun h => by omega))
        · exact fin _ _ g1 hkL (f8.brn (by assumption) t ht) rfl ih3
        · exact fin2 _ g1 hkL (f8.done (fun h => by omega) (fun _ => by omega))
        · exact fin2 _ g1 hkL (f8.done (fun h => by omega) (fun h => by omega))
      · intro k3 hk3
        (repeat' (first | (refine WP.chk (by (first | omega | (simp only [okI, List.length_append, List.length_cons, List.length_nil, length_setD, length_repD] at *; omega))) fun _ => ?_) | ((refine WP.bif (fun wh => ?_) (fun wh => ?_)) <;> (try simp only [wpH, ne_eq] at wh) <;> (try (exfalso; omega)))))
        all_goals (refine hk3 _ ⟨?_, ?_⟩ <;> omega)
    · refine WP.ret ⟨f2, rfl, ?_, h3, ⟨by dsimp only; omega, by dsimp only; omega⟩, fun x hx => ?_, ?_⟩
      · dsimp only; omega
      · obtain ⟨t, h1, h2, rfl⟩ := mem_atD hx
        dsimp only at h2 ⊢
        rw [f4]
        exact f5 t h1 (by omega)
      · dsimp only; rw [f4]; exact f7
  · intro k1 hk1
    refine WP.call (next_sp _ 12 d2 (by omega)) fun x10 ⟨e1, e2, e3, _⟩ => ?_
    (repeat' (first | (refine WP.chk (by (first | omega | (simp only [okI, List.length_append, List.length_cons, List.length_nil, length_setD, length_repD] at *; omega))) fun _ => ?_) | ((refine WP.bif (fun wh => ?_) (fun wh => ?_)) <;> (try simp only [wpH, ne_eq] at wh) <;> (try (exfalso; omega)))))
    · refine WP.call (word_sp _ e1) fun x11 ⟨g1, g2⟩ => hk1 _ ⟨g1, .trap _ g2, .inr rfl⟩
    · exact hk1 _ ⟨e1, .ret, .inl rfl⟩
/-- A program that is right. -/
structure WfP (p : AProgram) : Prop where
  len : 1 ≤ p.Funcs.length ∧ p.Funcs.length ≤ 80
  entry : (atD p.Funcs 0).Params = 0
  par : ∀ f ∈ p.Funcs, 0 ≤ f.Params ∧ f.Params ≤ 3
  func : ∀ i : Int, 0 ≤ i → i < p.Funcs.length → WfF p.Funcs.length i (atD p.Funcs i).Params (atD p.Funcs i)
theorem program_sp (c : DCodes) (funcs most : Int) (hc : okC c) (hf : 1 ≤ funcs ∧ funcs ≤ 80) (hm : 0 ≤ most ∧ most ≤ 100) : WP (draw_Program c funcs most) fun r => okC r.2 ∧ WfP r.1 ∧ (r.1.Funcs.length : Int) ≤ funcs := by
  unfold draw_Program
  refine WP.call (next_sp c funcs hc (by omega)) fun x1 ⟨h1, h2, h3, _⟩ => ?_
  have h4 := h3 (by omega)
  refine WP.loop (fun j => 0 ≤ j.1 ∧ okC j.2.1 ∧ 1 ≤ j.2.2.length ∧ (j.2.2.length : Int) + j.1 ≤ funcs ∧ atD j.2.2 0 = 0 ∧ ∀ x ∈ j.2.2, 0 ≤ x ∧ x ≤ 3) (fun j => j.1.toNat) ⟨h2, h1, by simp, by simp; omega, rfl, by simp⟩ ?_
  rintro again1 ⟨n, c2, ps⟩ ⟨a1, a2, a3, a4, a5, a6⟩ ih
  dsimp only at a1 a2 a3 a4 a5 a6 ih ⊢
  refine WP.bif (fun wh => ?_) (fun wh => ?_) <;> (try simp only [wpH, ne_eq] at wh)
  · refine WP.call (next_sp _ 4 a2 (by omega)) fun x2 ⟨b1, b2, b3, _⟩ => ?_
    (repeat' (first | (refine WP.chk (by (first | omega | (simp only [okI, List.length_append, List.length_cons, List.length_nil, length_setD, length_repD] at *; omega))) fun _ => ?_) | ((refine WP.bif (fun wh => ?_) (fun wh => ?_)) <;> (try simp only [wpH, ne_eq] at wh) <;> (try (exfalso; omega)))))
    refine ih _ ⟨by dsimp only; omega, b1, by simp, by simp; omega, ?_, fun x hx => ?_⟩ (by dsimp only; omega)
    · dsimp only; rw [atD_append_left (by show 0 < _; omega)]; exact a5
    · rcases List.mem_append.1 hx with hx | hx
      · exact a6 x hx
      · rw [one_mem hx]; omega
  refine WP.loop (fun j => j.1 = ps ∧ 0 ≤ j.2.1 ∧ okC j.2.2.1 ∧ (j.2.2.2.length : Int) = j.2.1 ∧ j.2.1 ≤ ps.length ∧ ∀ t : Int, 0 ≤ t → t < j.2.1 → WfF ps.length t (atD ps t) (atD j.2.2.2 t)) (fun j => ps.length - j.2.1.toNat) ⟨rfl, by simp, a2, by simp, by simp, by intro t h1 h2; dsimp only at h2; omega⟩ ?_
  rintro again2 ⟨ps2, i, c3, fs⟩ ⟨rfl, d2, d3, d4, d5, d6⟩ ih2
  dsimp only at a3 a4 a5 a6 d2 d3 d4 d5 d6 ih2 ⊢
  refine WP.bif (fun wh => ?_) (fun wh => ?_) <;> (try simp only [wpH, ne_eq] at wh)
  · (repeat' (first | (refine WP.chk (by (first | omega | (simp only [okI, List.length_append, List.length_cons, List.length_nil, length_setD, length_repD] at *; omega))) fun _ => ?_) | ((refine WP.bif (fun wh => ?_) (fun wh => ?_)) <;> (try simp only [wpH, ne_eq] at wh) <;> (try (exfalso; omega)))))
    refine WP.call (function_sp c3 i _ most d3 ⟨d2, wh⟩ hm ⟨by omega, a6⟩) fun x3 ⟨e1, e2⟩ => ?_
    (repeat' (first | (refine WP.chk (by (first | omega | (simp only [okI, List.length_append, List.length_cons, List.length_nil, length_setD, length_repD] at *; omega))) fun _ => ?_) | ((refine WP.bif (fun wh => ?_) (fun wh => ?_)) <;> (try simp only [wpH, ne_eq] at wh) <;> (try (exfalso; omega)))))
    refine ih2 _ ⟨rfl, by dsimp only; omega, e1, by simp; omega, by dsimp only; omega, fun t h1 h2 => ?_⟩ (by dsimp only; omega)
    dsimp only at h2 ⊢
    by_cases ht : t = i
    · rw [atD_last (by omega), ht]; exact e2
    · rw [atD_append_left (by omega)]; exact d6 t h1 (by omega)
  · have e : (fs.length : Int) = ps2.length := by omega
    have hp : ∀ t : Int, 0 ≤ t → t < fs.length → (atD fs t).Params = atD ps2 t := fun t h1 h2 => (d6 t h1 (by omega)).parq
    refine WP.ret ⟨d3, ⟨⟨by dsimp only; omega, by dsimp only; omega⟩, ?_, fun f hf => ?_, fun t h1 h2 => ?_⟩, by dsimp only; omega⟩
    · dsimp only; rw [hp 0 (by omega) (by omega)]; exact a5
    · obtain ⟨t, h1, h2, rfl⟩ := mem_atD hf
      dsimp only at h2
      rw [hp t h1 h2]
      exact a6 _ (atD_mem ⟨h1, by omega⟩)
    · dsimp only at h2 ⊢
      rw [hp t h1 h2, e]
      exact d6 t h1 (by omega)
theorem WP.iter {α γ : Type} {F : (γ → M α) → γ → M α} {j : γ} {Q : α → Prop} (n : Nat) (h : WP (M.iter F n j) Q) : WP (M.loop F j) Q := by
  obtain ⟨r, h1, h2⟩ := h
  exact ⟨r, M.loop_iff.2 ⟨n, h1⟩, h2⟩
def isU8 (cs : List Int) : Prop := ∀ x ∈ cs, 0 ≤ x ∧ x ≤ 255
end Go.Proofs.YteifdlklpdjkkaaDoor.Q
