/- Sets of the reference: what the functions compute. -/
import Derived.Test.YtpjmpkgllnomaaaDoorP2
set_option linter.unusedVariables false
set_option linter.unusedSimpArgs false
namespace Go.Proofs.YtpjmpkgllnomaaaDoor.Q
theorem good_sp (n : Int) : WP (r04_good n) (· = in512 n) := by
  unfold r04_good in512
  (repeat' (first | (refine WP.chk (by (first | omega | (simp only [okI, List.length_append, List.length_cons, List.length_nil, length_setD, length_repD] at *; omega))) fun _ => ?_) | ((refine WP.bif (fun wh => ?_) (fun wh => ?_)) <;> (try simp only [wpH, ne_eq] at wh) <;> (try (exfalso; omega)))))
  all_goals (refine WP.ret ?_; simp; omega)
theorem same_sp (a b : List Int) (hl : a.length ≤ 1000000000) : WP (r04_Same a b) (· = decide (a = b)) := by
  unfold r04_Same
  refine WP.bif (fun wh => ?_) (fun wh => ?_) <;> (try simp only [wpH, ne_eq] at wh)
  · refine WP.ret ?_
    rw [eq_comm, decide_eq_false_iff_not]
    intro h; subst h; exact wh rfl
  have hlen : a.length = b.length := by omega
  refine WP.loop (fun i => 0 ≤ i ∧ i ≤ a.length ∧ a.take i.toNat = b.take i.toNat) (fun i => a.length - i.toNat) ⟨by omega, by omega, by simp⟩ ?_
  rintro again i ⟨h1, h2, h3⟩ ih
  (repeat' (first | (refine WP.chk (by (first | omega | (simp only [okI, List.length_append, List.length_cons, List.length_nil, length_setD, length_repD] at *; omega))) fun _ => ?_) | ((refine WP.bif (fun wh => ?_) (fun wh => ?_)) <;> (try simp only [wpH, ne_eq] at wh) <;> (try (exfalso; omega)))))
  · refine WP.ret ?_
    rw [eq_comm, decide_eq_false_iff_not]
    intro h; subst h; exact wh rfl
  · refine ih _ ⟨by omega, by omega, ?_⟩ (by omega)
    rw [take_atD ⟨h1, by assumption⟩, take_atD ⟨h1, by omega⟩, h3, wh]
  · refine WP.ret ?_
    rw [take_all (by omega), take_all (by omega)] at h3
    simp [h3]
/-- Into its place. -/
def insS (n : Int) : List Int → List Int
  | [] => [n]
  | x :: r => if n ≤ x then (if n < x then n :: x :: r else x :: r) else x :: insS n r
def addS (s : List Int) (n : Int) : List Int := if in512 n then insS n s else s
theorem drop_atD {α : Type} [Inhabited α] {l : List α} {k : Int} (h : 0 ≤ k ∧ k < (l.length : Int)) : l.drop k.toNat = atD l k :: l.drop (k + 1).toNat := by
  have h1 : k.toNat < l.length := by omega
  rw [show (k + 1).toNat = k.toNat + 1 by omega, List.drop_eq_getElem_cons h1]
  have := atD_nat h1
  rw [Int.toNat_of_nonneg h.1] at this
  rw [this]
theorem add_sp (s : List Int) (n : Int) (hl : s.length ≤ 1000000000) : WP (r04_Add s n) (· = addS s n) := by
  unfold r04_Add
  refine WP.call (good_sp n) ?_
  rintro _ rfl
  refine WP.loop (fun j => 0 ≤ j.2.1 ∧ j.2.1 ≤ s.length ∧ (j.2.2.length : Int) ≤ j.2.1 + (if j.1 then 1 else 0) ∧ j.2.2 ++ (if j.1 then s.drop j.2.1.toNat else insS n (s.drop j.2.1.toNat)) = addS s n) (fun j => s.length - j.2.1.toNat) ⟨by simp, by simp, by dsimp only; split <;> simp, ?_⟩ ?_
  · unfold addS
    cases in512 n <;> simp
  rintro again ⟨d, i, out⟩ ⟨h1, h2, h3, h4⟩ ih
  dsimp only at h1 h2 h3 h4 ih ⊢
  refine WP.bif (fun wh => ?_) (fun wh => ?_) <;> (try simp only [wpH, ne_eq] at wh)
  · rw [drop_atD ⟨h1, wh⟩] at h4
    refine WP.join (fun j => (j.2.length : Int) ≤ i + (if j.1 then 1 else 0) ∧ j.2 ++ (atD s i :: (if j.1 then s.drop (i + 1).toNat else insS n (s.drop (i + 1).toNat))) = addS s n) ?_ ?_
    · rintro ⟨d2, out2⟩ ⟨a1, a2⟩
      dsimp only at a1 a2 ⊢
      (repeat' (first | (refine WP.chk (by (first | omega | (simp only [okI, List.length_append, List.length_cons, List.length_nil, length_setD, length_repD] at *; omega))) fun _ => ?_) | ((refine WP.bif (fun wh => ?_) (fun wh => ?_)) <;> (try simp only [wpH, ne_eq] at wh) <;> (try (exfalso; omega)))))
      refine ih _ ⟨by dsimp only; omega, by dsimp only; omega, by simp; omega, ?_⟩ (by dsimp only; omega)
      dsimp only
      rw [List.append_assoc]
      exact a2
    · intro k hk
      cases d with
      | true =>
        refine WP.bif (fun wh => by cases wh) (fun wh => ?_)
        exact hk _ ⟨by dsimp only; omega, h4⟩
      | false =>
        refine WP.bif (fun wh => ?_) (fun wh => by cases wh)
        simp only [Bool.false_eq_true, if_false] at h3 h4
        unfold insS at h4
        (repeat' (first | (refine WP.chk (by (first | omega | (simp only [okI, List.length_append, List.length_cons, List.length_nil, length_setD, length_repD] at *; omega))) fun _ => ?_) | ((refine WP.bif (fun wh => ?_) (fun wh => ?_)) <;> (try simp only [wpH, ne_eq] at wh) <;> (try (exfalso; omega)))))
        · rw [if_pos (by assumption), if_pos (by assumption)] at h4
          refine hk _ ⟨by simp only [List.length_append, List.length_singleton, if_true]; omega, ?_⟩
          dsimp only
          rw [List.append_assoc]
          exact h4
        · rw [if_pos (by assumption), if_neg (by omega)] at h4
          exact hk _ ⟨by simp only [if_true, if_false, Bool.false_eq_true]; omega, h4⟩
        · rw [if_neg (by omega)] at h4
          exact hk _ ⟨by simp only [if_true, if_false, Bool.false_eq_true]; omega, h4⟩
  · have e : s.drop i.toNat = [] := List.drop_eq_nil_of_le (by omega)
    rw [e] at h4
    cases d with
    | true =>
      refine WP.bif (fun wh => by cases wh) (fun wh => ?_)
      exact WP.ret (by simpa using h4)
    | false =>
      refine WP.bif (fun wh => ?_) (fun wh => by cases wh)
      (repeat' (first | (refine WP.chk (by (first | omega | (simp only [okI, List.length_append, List.length_cons, List.length_nil, length_setD, length_repD] at *; omega))) fun _ => ?_) | ((refine WP.bif (fun wh => ?_) (fun wh => ?_)) <;> (try simp only [wpH, ne_eq] at wh) <;> (try (exfalso; omega)))))
      exact WP.ret (by simpa [insS] using h4)
/-! ### Sets that are in order -/
structure IsS (s : List Int) : Prop where
  asc : s.Pairwise (· < ·)
  rng : ∀ x ∈ s, 0 ≤ x ∧ x < 512
theorem IsS.nil : IsS [] := ⟨List.Pairwise.nil, by simp⟩
theorem IsS.nodup {s : List Int} (h : IsS s) : s.Nodup := h.asc.imp fun h => by omega
theorem mem_insS {n x : Int} : ∀ {s : List Int}, x ∈ insS n s ↔ x = n ∨ x ∈ s
  | [] => by simp [insS]
  | y :: r => by
    unfold insS
    split
    · split
      · simp
      · have : n = y := by omega
        subst this
        simp
    · simp [mem_insS (s := r)]
      constructor
      · rintro (h | h | h) <;> simp [h]
      · rintro (h | h | h) <;> simp [h]
theorem insS_asc {n : Int} : ∀ {s : List Int}, s.Pairwise (· < ·) → (insS n s).Pairwise (· < ·)
  | [], _ => by simp [insS]
  | y :: r, h => by
    have h' := List.pairwise_cons.1 h
    unfold insS
    split
    · split
      · refine List.pairwise_cons.2 ⟨fun z hz => ?_, h⟩
        rcases List.mem_cons.1 hz with rfl | hz
        · assumption
        · have := h'.1 z hz; omega
      · exact h
    · refine List.pairwise_cons.2 ⟨fun z hz => ?_, insS_asc h'.2⟩
      rcases mem_insS.1 hz with rfl | hz
      · omega
      · exact h'.1 z hz
theorem in512_iff {n : Int} : in512 n = true ↔ 0 ≤ n ∧ n < 512 := by simp [in512]
theorem mem_addS {s : List Int} {n x : Int} : x ∈ addS s n ↔ x ∈ s ∨ (x = n ∧ 0 ≤ n ∧ n < 512) := by
  unfold addS
  split
  · rename_i h
    rw [mem_insS]
    have := in512_iff.1 h
    constructor
    · rintro (rfl | h)
      · exact .inr ⟨rfl, this⟩
      · exact .inl h
    · rintro (h | ⟨rfl, _⟩)
      · exact .inr h
      · exact .inl rfl
  · rename_i h
    rw [in512_iff] at h
    constructor
    · exact fun h => .inl h
    · rintro (q | ⟨_, q⟩)
      · exact q
      · exact (h q).elim
theorem IsS.add {s : List Int} (h : IsS s) (n : Int) : IsS (addS s n) := by
  refine ⟨?_, fun x hx => ?_⟩
  · unfold addS
    split
    · exact insS_asc h.asc
    · exact h.asc
  · rcases mem_addS.1 hx with hx | ⟨rfl, hx⟩
    · exact h.rng x hx
    · exact hx
theorem IsS.filter {a : List Int} (h : IsS a) (p : Int → Bool) : IsS (a.filter p) := ⟨h.asc.filter p, fun x hx => h.rng x (List.mem_filter.1 hx).1⟩
theorem asc_length {s : List Int} {lo : Int} {n : Nat} (h : s.Pairwise (· < ·)) (hr : ∀ x ∈ s, lo ≤ x ∧ x < lo + n) : s.length ≤ n := by
  induction s generalizing lo n with
  | nil => simp
  | cons y r ih =>
    have h' := List.pairwise_cons.1 h
    have hy := hr y List.mem_cons_self
    have := ih (lo := y + 1) (n := (lo + n - (y + 1)).toNat) h'.2 fun x hx => by
      have h1 := h'.1 x hx
      have h2 := hr x (List.mem_cons_of_mem _ hx)
      omega
    simp; omega
theorem IsS.length {s : List Int} (h : IsS s) : s.length ≤ 512 := asc_length (lo := 0) (n := 512) h.asc fun x hx => by have := h.rng x hx; omega
/-- Sets with the same elements. -/
theorem asc_ext : ∀ {a b : List Int}, a.Pairwise (· < ·) → b.Pairwise (· < ·) → (∀ x, x ∈ a ↔ x ∈ b) → a = b
  | [], [], _, _, _ => rfl
  | [], y :: r, _, _, h => by have := (h y).2 List.mem_cons_self; cases this
  | y :: r, [], _, _, h => by have := (h y).1 List.mem_cons_self; cases this
  | x :: q, y :: r, ha, hb, h => by
    have ha' := List.pairwise_cons.1 ha
    have hb' := List.pairwise_cons.1 hb
    have e : x = y := by
      have h1 := (h x).1 List.mem_cons_self
      have h2 := (h y).2 List.mem_cons_self
      rcases List.mem_cons.1 h1 with h1 | h1
      · exact h1
      · rcases List.mem_cons.1 h2 with h2 | h2
        · exact h2.symm
        · have := ha'.1 y h2; have := hb'.1 x h1; omega
    subst e
    congr 1
    refine asc_ext ha'.2 hb'.2 fun z => ⟨fun hz => ?_, fun hz => ?_⟩
    · rcases List.mem_cons.1 ((h z).1 (List.mem_cons_of_mem _ hz)) with e | hz'
      · have := ha'.1 z hz; omega
      · exact hz'
    · rcases List.mem_cons.1 ((h z).2 (List.mem_cons_of_mem _ hz)) with e | hz'
      · have := hb'.1 z hz; omega
      · exact hz'
theorem IsS.ext {a b : List Int} (ha : IsS a) (hb : IsS b) (h : ∀ x, x ∈ a ↔ x ∈ b) : a = b := asc_ext ha.asc hb.asc h
theorem asc_range (p : Nat → Bool) (n : Nat) : (((List.range n).filter p).map fun k : Nat => (k : Int)).Pairwise (· < ·) := by
  rw [List.pairwise_map]
  exact (List.pairwise_lt_range (n := n)).filter p |>.imp fun h => by omega
theorem mem_setOf {l : List Int} {x : Int} : x ∈ setOf l ↔ x ∈ l ∧ 0 ≤ x ∧ x < 512 := by
  unfold setOf
  rw [List.mem_map]
  constructor
  · rintro ⟨k, hk, rfl⟩
    rw [List.mem_filter, List.mem_range, decide_eq_true_eq] at hk
    exact ⟨hk.2, by omega, by omega⟩
  · rintro ⟨h1, h2, h3⟩
    refine ⟨x.toNat, ?_, by omega⟩
    rw [List.mem_filter, List.mem_range, decide_eq_true_eq, Int.toNat_of_nonneg h2]
    exact ⟨by omega, h1⟩
theorem IsS.setOf (l : List Int) : IsS (Go.Proofs.YtpjmpkgllnomaaaDoor.Q.setOf l) := ⟨asc_range _ _, fun x hx => (mem_setOf.1 hx).2⟩
theorem ascS_iff {s : List Int} : ascS s = true ↔ IsS s := by
  have hat : ∀ j, j < s.length → s.getD j 0 = s.getD j 0 := fun _ _ => rfl
  constructor
  · intro h
    have h1 : ∀ j, j < s.length → in512 (s.getD j 0) = true ∧ (j = 0 ∨ s.getD (j - 1) 0 < s.getD j 0) := fun j hj => by
      have := List.all_eq_true.1 h j (List.mem_range.2 hj)
      simpa using this
    refine ⟨?_, fun x hx => ?_⟩
    · rw [List.pairwise_iff_getElem]
      have key : ∀ (d i : Nat) (hi : i + d + 1 < s.length), s.getD i 0 < s.getD (i + d + 1) 0 := by
        intro d
        induction d with
        | zero =>
          intro i hi
          have := (h1 (i + 0 + 1) hi).2
          rcases this with h | h
          · omega
          · simpa using h
        | succ d ih =>
          intro i hi
          have q1 := ih i (by omega)
          have q2 := (h1 (i + (d + 1) + 1) hi).2
          rcases q2 with h | h
          · omega
          · have e : i + (d + 1) + 1 - 1 = i + d + 1 := by omega
            rw [e] at h
            omega
      intro i j hi hj hij
      have := key (j - i - 1) i (by omega)
      have e : i + (j - i - 1) + 1 = j := by omega
      rw [e] at this
      simpa [List.getD, hi, hj] using this
    · obtain ⟨j, hj, rfl⟩ := List.getElem_of_mem hx
      have := (h1 j hj).1
      rw [in512_iff] at this
      simpa [List.getD, hj] using this
  · intro h
    unfold ascS
    rw [List.all_eq_true]
    intro j hj
    have hj' := List.mem_range.1 hj
    have h1 := h.rng s[j] (List.getElem_mem hj')
    have e : s.getD j 0 = s[j] := by simp [List.getD, hj']
    rw [e, (in512_iff (n := s[j])).2 h1]
    by_cases hj0 : j = 0
    · simp [hj0]
    · have h2 : j - 1 < s.length := by omega
      have e2 : s.getD (j - 1) 0 = s[j - 1] := by simp [List.getD, h2]
      rw [e2]
      have := List.pairwise_iff_getElem.1 h.asc (j - 1) j h2 hj' (by omega)
      simp [hj0, this]
end Go.Proofs.YtpjmpkgllnomaaaDoor.Q
