/- Graphs: which slices are graphs, drawn graphs, turned edges, ways. -/
import Derived.Test.YtpjmpkgllnomaaaDoorP4
set_option linter.unusedVariables false
set_option linter.unusedSimpArgs false
namespace Go.Proofs.YtpjmpkgllnomaaaDoor.Q
theorem ext27 {α : Type} [Inhabited α] {a b : List α} (hl : a.length = b.length) (h : ∀ k, inN k a.length → atD a k = atD b k) : a = b :=
  List.ext_getElem hl fun t h1 h2 => by rw [← atD_nat h1, ← atD_nat h2]; exact h _ ⟨by omega, by omega⟩
theorem rep27 {α : Type} [Inhabited α] (n k : Int) : atD (repD n : List α) k = default := by
  unfold atD repD
  rw [List.getD_eq_getElem?_getD, List.getElem?_replicate]
  split <;> rfl
theorem nodup_length {α : Type} [DecidableEq α] : ∀ {a b : List α}, a.Nodup → a ⊆ b → a.length ≤ b.length
  | [], _, _, _ => Nat.zero_le _
  | x :: r, b, h, hs => by
    have hx : x ∈ b := hs List.mem_cons_self
    obtain ⟨h1, h2⟩ := List.nodup_cons.1 h
    have := nodup_length (b := b.erase x) h2 fun y hy => by
      have hne : y ≠ x := fun e => h1 (e ▸ hy)
      exact (List.mem_erase_of_ne hne).2 (hs (List.mem_cons_of_mem _ hy))
    rw [List.length_erase_of_mem hx] at this
    have := List.length_pos_of_mem hx
    simp only [List.length_cons]
    omega
/-- A graph. -/
structure GrP (g : List (List Int)) : Prop where
  len : 1 ≤ g.length ∧ g.length ≤ 80
  row : ∀ i, inN i g.length → IsS (atD g i)
  rng : ∀ i, inN i g.length → ∀ y ∈ atD g i, inN y g.length
def rowOk (n : Nat) (s : List Int) : Bool := ascS s && decide (s.length = 0 ∨ atD s ((s.length : Int) - 1) < n)
def checkG (g : List (List Int)) : Bool := decide (1 ≤ g.length ∧ g.length ≤ 80) && g.all (rowOk g.length)
theorem asc_le_last {s : List Int} (h : s.Pairwise (· < ·)) {x : Int} (hx : x ∈ s) : x ≤ atD s ((s.length : Int) - 1) := by
  obtain ⟨n, hn, rfl⟩ := List.getElem_of_mem hx
  have e : ((s.length : Int) - 1) = ((s.length - 1 : Nat) : Int) := by omega
  rw [e, atD_nat (by omega)]
  by_cases hl : n = s.length - 1
  · subst hl; exact Int.le_refl _
  · have := List.pairwise_iff_getElem.1 h n (s.length - 1) hn (by omega) (by omega)
    omega
theorem rowOk_iff {n : Nat} {s : List Int} : rowOk n s = true ↔ IsS s ∧ ∀ y ∈ s, inN y n := by
  unfold rowOk
  rw [Bool.and_eq_true, ascS_iff, decide_eq_true_eq]
  refine and_congr_right fun h => ⟨fun h1 y hy => ?_, fun h1 => ?_⟩
  · have h2 := asc_le_last h.asc hy
    have h3 := h.rng y hy
    have h4 := List.length_pos_of_mem hy
    rcases h1 with h1 | h1
    · omega
    · exact ⟨h3.1, by omega⟩
  · by_cases h0 : s.length = 0
    · exact .inl h0
    · exact .inr (h1 _ (atD_mem ⟨by omega, by omega⟩)).2
theorem all_atD {α : Type} [Inhabited α] {l : List α} {p : α → Bool} : l.all p = true ↔ ∀ k, inN k l.length → p (atD l k) = true := by
  rw [List.all_eq_true]
  constructor
  · intro h k hk
    exact h _ (atD_mem hk)
  · intro h x hx
    obtain ⟨k, h1, h2, rfl⟩ := mem_atD hx
    exact h k ⟨h1, h2⟩
theorem checkG_iff {g : List (List Int)} : checkG g = true ↔ GrP g := by
  unfold checkG
  rw [Bool.and_eq_true, decide_eq_true_eq, all_atD]
  constructor
  · rintro ⟨h1, h2⟩
    exact ⟨h1, fun i hi => (rowOk_iff.1 (h2 i hi)).1, fun i hi => (rowOk_iff.1 (h2 i hi)).2⟩
  · rintro ⟨h1, h2, h3⟩
    exact ⟨h1, fun i hi => rowOk_iff.2 ⟨h2 i hi, h3 i hi⟩⟩
theorem checkG_bad {g : List (List Int)} {i : Int} (hi : inN i g.length) (h : rowOk g.length (atD g i) = false) : checkG g = false := by
  cases e : checkG g with
  | false => rfl
  | true =>
    unfold checkG at e
    rw [Bool.and_eq_true, all_atD] at e
    rw [e.2 i hi] at h; cases h
theorem rowOk_ok {n : Nat} {s : List Int} (h : IsS s) (h2 : s.length = 0 ∨ atD s ((s.length : Int) - 1) < n) : rowOk n s = true := by
  unfold rowOk
  rw [ascS_iff.2 h, Bool.true_and]
  exact decide_eq_true h2
theorem rowOk_bad {n : Nat} {s : List Int} (h : s.length ≠ 0) (h2 : (n : Int) ≤ atD s ((s.length : Int) - 1)) : rowOk n s = false := by
  unfold rowOk
  rw [decide_eq_false (p := _ ∨ _) (by omega), Bool.and_false]
theorem rowOk_bad' {n : Nat} {s : List Int} (h : ascS s = false) : rowOk n s = false := by
  unfold rowOk; rw [h, Bool.false_and]
theorem check27_sp (g : List (List Int)) (hl : g.length ≤ 1000000000) : WP (callgraph_Check g) (· = checkG g) := by
  unfold callgraph_Check
  refine WP.loop (fun i => 0 ≤ i ∧ i ≤ g.length ∧ ∀ k, inN k g.length → k < i → rowOk g.length (atD g k) = true) (fun i => g.length - i.toNat) ⟨by omega, by omega, fun k h1 h2 => by have := h1.1; omega⟩ ?_
  rintro again i ⟨h1, h2, h3⟩ ih
  refine WP.bif (fun wh => ?_) (fun wh => ?_) <;> (try simp only [wpH, ne_eq] at wh)
  · have hi : inN i g.length := ⟨h1, wh⟩
    have next : rowOk g.length (atD g i) = true → WP (again (i + 1)) (· = checkG g) := fun hr => ih _ ⟨by omega, by omega, fun k q1 q2 => by
      by_cases hk : k = i
      · rw [hk]; exact hr
      · exact h3 k q1 (by omega)⟩ (by omega)
    refine WP.chk hi fun _ => ?_
    unfold bitset_Check
    refine WP.call (R := (· = ascS (atD g i))) (WP.ret rfl) ?_
    rintro _ rfl
    refine WP.bif (fun wh => ?_) (fun wh => ?_) <;> (try simp only [wpH, ne_eq] at wh)
    · exact WP.ret (checkG_bad hi (rowOk_bad' wh)).symm
    · have hS := ascS_iff.1 wh
      have hSl := hS.length
      refine WP.bif (fun wh => ?_) (fun wh => ?_) <;> (try simp only [wpH, ne_eq] at wh)
      · refine WP.chk ⟨by omega, by omega⟩ fun _ => WP.chk ⟨by omega, by omega⟩ fun _ => ?_
        refine WP.bif (fun wh => ?_) (fun wh => ?_) <;> (try simp only [wpH, ne_eq] at wh)
        · exact WP.ret (checkG_bad hi (rowOk_bad (by omega) wh)).symm
        · exact WP.chk ⟨by omega, by omega⟩ fun _ => next (rowOk_ok hS (.inr (by omega)))
      · exact WP.chk ⟨by omega, by omega⟩ fun _ => next (rowOk_ok hS (.inl (by omega)))
  · have hall : g.all (rowOk g.length) = true := all_atD.2 fun k hk => h3 k hk (by have := hk.2; omega)
    have e : checkG g = decide (1 ≤ g.length ∧ g.length ≤ 80) := by unfold checkG; rw [hall, Bool.and_true]
    refine WP.bif (fun wh => ?_) (fun wh => ?_) <;> (try simp only [wpH, ne_eq] at wh)
    · refine WP.ret ?_
      rw [e]
      exact decide_eq_decide.2 ⟨fun h => ⟨by omega, by omega⟩, fun h => by omega⟩
    · refine WP.ret ?_
      rw [e]
      exact (decide_eq_false (by omega)).symm
/-! ### Drawn graphs -/
theorem graph27_sp (c : DCodes) (most : Int) (free : Bool) (hc : okC c) (hm : 1 ≤ most ∧ most ≤ 80) : WP (draw_Graph c most free) fun r => okC r.2 ∧ GrP r.1 ∧ (r.1.length : Int) ≤ most ∧ (free = true → ∀ i, inN i r.1.length → ∀ y ∈ atD r.1 i, i < y) := by
  unfold draw_Graph
  refine WP.call (next_sp c most hc (by omega)) fun x1 ⟨h1, h2, h3, _⟩ => ?_
  have h3 := h3 (by omega)
  generalize hn : (1 : Int) + x1.1 = n
  have hn1 : 1 ≤ n ∧ n ≤ most := by omega
  refine WP.chk ⟨by omega, by omega⟩ fun _ => WP.chk ⟨by omega, by omega⟩ fun _ => ?_
  refine WP.loop (fun j => 0 ≤ j.1 ∧ j.1 ≤ n ∧ okC j.2.1 ∧ (j.2.2.length : Int) = n ∧ ∀ a, inN a n → IsS (atD j.2.2 a) ∧ ∀ y ∈ atD j.2.2 a, inN y n ∧ (free = true → a < y)) (fun j => n.toNat - j.1.toNat) ⟨Int.le_refl _, by dsimp only; omega, h1, by dsimp only; rw [length_repD]; omega, fun a ha => ?_⟩ ?_
  · dsimp only
    rw [rep27]
    exact ⟨IsS.nil, fun y hy => by cases hy⟩
  rintro again1 ⟨i, c2, g⟩ ⟨a1, a2, a3, a4, a5⟩ ih1
  dsimp only at a1 a2 a3 a4 a5 ih1 ⊢
  refine WP.bif (fun wh => ?_) (fun wh => ?_) <;> (try simp only [wpH, ne_eq] at wh)
  · have hi := wh
    refine WP.call (next_sp _ 4 a3 (by omega)) fun x2 ⟨b1, b2, b3, _⟩ => ?_
    refine WP.loop (fun j => 0 ≤ j.1 ∧ j.1 ≤ 4 ∧ okC j.2.1 ∧ (j.2.2.length : Int) = n ∧ ∀ a, inN a n → IsS (atD j.2.2 a) ∧ ∀ y ∈ atD j.2.2 a, inN y n ∧ (free = true → a < y)) (fun j => j.1.toNat) ⟨b2, by have := b3 (by omega); dsimp only; omega, b1, a4, a5⟩ ?_
    rintro again2 ⟨k, c3, g2⟩ ⟨d1, d2, d3, d4, d5⟩ ih2
    dsimp only at d1 d2 d3 d4 d5 ih2 ⊢
    refine WP.bif (fun wh => ?_) (fun wh => ?_) <;> (try simp only [wpH, ne_eq] at wh)
    · refine WP.call (next_sp _ n d3 (by omega)) fun x3 ⟨e1, e2, e3, _⟩ => ?_
      have e3 := e3 (by omega)
      have hio : 0 ≤ i ∧ i < (g2.length : Int) := by rw [d4]; exact ⟨a1, hi⟩
      refine WP.join (fun j => okC j.2 ∧ inN j.1 n ∧ (free = true → i + 1 < n → i < j.1)) ?_ ?_
      · rintro ⟨j, c4⟩ ⟨f1, f2, f3⟩
        dsimp only at f1 f2 f3 ⊢
        have hlen := (d5 i ⟨a1, hi⟩).1.length
        have add : (free = true → i < j) → ∀ x, x = addS (atD g2 i) j → WP (again2 ((k - 1), c4, (setD g2 i x))) fun r => okC r.2 ∧ GrP r.1 ∧ (r.1.length : Int) ≤ most ∧ (free = true → ∀ i, inN i r.1.length → ∀ y ∈ atD r.1 i, i < y) := by
          rintro hf _ rfl
          refine ih2 _ ⟨by dsimp only; omega, by dsimp only; omega, f1, by dsimp only; rw [length_setD]; exact d4, fun a ha => ?_⟩ (by dsimp only; omega)
          dsimp only
          rw [atD_setD hio ha.1]
          by_cases he : a = i
          · rw [if_pos he]
            obtain ⟨q1, q2⟩ := d5 i ⟨a1, hi⟩
            refine ⟨q1.add j, fun y hy => ?_⟩
            rcases mem_addS.1 hy with hy | ⟨rfl, _⟩
            · rw [he]; exact q2 y hy
            · rw [he]; exact ⟨f2, hf⟩
          · rw [if_neg he]; exact d5 a ha
        refine WP.bif (fun wh => ?_) (fun wh => ?_) <;> (try simp only [wpH, ne_eq] at wh)
        · have hfr : free = false := by simpa using wh
          refine WP.chk hio fun _ => ?_
          refine WP.call (add_sp _ _ (by omega)) fun x4 hx4 => WP.chk hio fun _ => WP.chk ⟨by omega, by omega⟩ fun _ => ?_
          exact add (fun h => by rw [hfr] at h; cases h) x4 hx4
        · refine WP.chk ⟨by omega, by omega⟩ fun _ => ?_
          refine WP.bif (fun wh => ?_) (fun wh => ?_) <;> (try simp only [wpH, ne_eq] at wh)
          · refine WP.chk hio fun _ => ?_
            refine WP.call (add_sp _ _ (by omega)) fun x4 hx4 => WP.chk hio fun _ => WP.chk ⟨by omega, by omega⟩ fun _ => ?_
            exact add (fun h => f3 h wh) x4 hx4
          · refine WP.chk ⟨by omega, by omega⟩ fun _ => ?_
            exact ih2 _ ⟨by dsimp only; omega, by dsimp only; omega, f1, d4, d5⟩ (by dsimp only; omega)
      · intro k2 hk2
        refine WP.bif (fun wh => ?_) (fun wh => ?_) <;> (try simp only [wpH, ne_eq] at wh)
        · refine WP.chk ⟨by omega, by omega⟩ fun _ => ?_
          refine WP.bif (fun wh => ?_) (fun wh => ?_) <;> (try simp only [wpH, ne_eq] at wh)
          · refine WP.chk ⟨by omega, by omega⟩ fun _ => WP.chk ⟨by omega, by omega⟩ fun _ => WP.chk ⟨by omega, by omega⟩ fun _ => ?_
            refine WP.call (next_sp _ _ e1 (by omega)) fun x6 ⟨f1, f2, f3, _⟩ => ?_
            have f3 := f3 (by omega)
            refine WP.chk ⟨by omega, by omega⟩ fun _ => ?_
            exact hk2 _ ⟨f1, ⟨by dsimp only; omega, by dsimp only; omega⟩, fun _ _ => by dsimp only; omega⟩
          · exact hk2 _ ⟨e1, ⟨e2, e3⟩, fun _ h => absurd h (by omega)⟩
        · have hfr : free = false := by simpa using wh
          exact hk2 _ ⟨e1, ⟨e2, e3⟩, fun h => by rw [hfr] at h; cases h⟩
    · refine WP.chk ⟨by omega, by omega⟩ fun _ => ?_
      exact ih1 _ ⟨by dsimp only; omega, by dsimp only; omega, d3, d4, d5⟩ (by dsimp only; omega)
  · have e : ∀ a, inN a g.length → inN a n := fun a ha => ⟨ha.1, by have := ha.2; omega⟩
    refine WP.ret ⟨a3, ⟨⟨by dsimp only; omega, by dsimp only; omega⟩, fun a ha => (a5 a (e a ha)).1, fun a ha y hy => ?_⟩, by dsimp only; omega, fun hf a ha y hy => ((a5 a (e a ha)).2 y hy).2 hf⟩
    have := ((a5 a (e a ha)).2 y hy).1
    exact ⟨this.1, by have := this.2; dsimp only; omega⟩
/-! ### Ways -/
inductive Way (g : List (List Int)) (a : Int) : Int → Prop
  | refl : Way g a a
  | step {b c : Int} : Way g a b → c ∈ atD g b → Way g a c
theorem Way.trans {g : List (List Int)} {a b c : Int} (h : Way g a b) (h' : Way g b c) : Way g a c := by
  induction h' with
  | refl => exact h
  | step _ h2 ih => exact ih.step h2
theorem Way.head {g : List (List Int)} {a b c : Int} (h : b ∈ atD g a) (h' : Way g b c) : Way g a c := (Way.refl.step h).trans h'
theorem Way.rng {g : List (List Int)} (hg : GrP g) {a b : Int} (ha : inN a g.length) (h : Way g a b) : inN b g.length := by
  induction h with
  | refl => exact ha
  | step _ h2 ih => exact hg.rng _ ih _ h2
end Go.Proofs.YtpjmpkgllnomaaaDoor.Q
