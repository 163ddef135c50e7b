/- Sets as ascending lists: the reference's lists and the bits' lists are the same. No program in sight. -/
import Derived.Test.YtjfkdjlmajfljaaDoorSetList
import Derived.Test.YtjfkdjlmajfljaaDoorSetOps
import Derived.Test.YtjfkdjlmajfljaaDoorSetCheck
namespace Go.Proofs.YtjfkdjlmajfljaaDoor
open Go
def Asc (l : List Int) : Prop := l.Pairwise (· < ·)
theorem inB_iff {n : Int} : inB n = true ↔ 0 ≤ n ∧ n < 512 := by simp [inB]
theorem asc_eq : ∀ {a b : List Int}, Asc a → Asc b → (∀ x, x ∈ a ↔ x ∈ b) → a = b
  | [], [], _, _, _ => rfl
  | [], b :: ys, _, _, h => by have := (h b).2 (List.mem_cons_self ..); cases this
  | a :: xs, [], _, _, h => by have := (h a).1 (List.mem_cons_self ..); cases this
  | a :: xs, b :: ys, ha, hb, h => by
    have ha' := List.pairwise_cons.1 ha
    have hb' := List.pairwise_cons.1 hb
    have e : a = b := by
      have h1 := (h a).1 (List.mem_cons_self ..)
      have h2 := (h b).2 (List.mem_cons_self ..)
      rcases List.mem_cons.1 h1 with h1 | h1
      · exact h1
      · rcases List.mem_cons.1 h2 with h2 | h2
        · exact h2.symm
        · have := hb'.1 a h1; have := ha'.1 b h2; omega
    subst e
    congr 1
    refine asc_eq ha'.2 hb'.2 fun x => ?_
    have hx := h x
    constructor
    · intro hm
      rcases List.mem_cons.1 (hx.1 (List.mem_cons_of_mem _ hm)) with e | hm2
      · subst e; have := ha'.1 x hm; omega
      · exact hm2
    · intro hm
      rcases List.mem_cons.1 (hx.2 (List.mem_cons_of_mem _ hm)) with e | hm2
      · subst e; have := hb'.1 x hm; omega
      · exact hm2
theorem mem_insL {n x : Int} {l : List Int} : x ∈ insL n l ↔ x = n ∨ x ∈ l := by
  induction l with
  | nil => simp [insL]
  | cons a l ih =>
    unfold insL
    split
    · split
      · simp
      · have : n = a := by omega
        subst this; simp
    · simp only [List.mem_cons, ih]
      constructor
      · rintro (h | h | h) <;> simp [h]
      · rintro (h | h | h) <;> simp [h]
theorem asc_insL {n : Int} {l : List Int} (h : Asc l) : Asc (insL n l) := by
  induction l with
  | nil => simp [insL, Asc]
  | cons a l ih =>
    have h' := List.pairwise_cons.1 h
    unfold insL
    split
    · split
      · refine List.pairwise_cons.2 ⟨fun x hx => ?_, h⟩
        rcases List.mem_cons.1 hx with e | hx
        · omega
        · have := h'.1 x hx; omega
      · exact h
    · refine List.pairwise_cons.2 ⟨fun x hx => ?_, ih h'.2⟩
      rcases mem_insL.1 hx with e | hx
      · omega
      · exact h'.1 x hx
theorem mem_addL {n x : Int} {l : List Int} : x ∈ addL l n ↔ (x = n ∧ inB n = true) ∨ x ∈ l := by
  unfold addL
  cases h : inB n
  · simp
  · simp [mem_insL]
theorem asc_addL {n : Int} {l : List Int} (h : Asc l) : Asc (addL l n) := by
  unfold addL
  split
  · exact asc_insL h
  · exact h
theorem asc_foldl {l a : List Int} (h : Asc a) : Asc (l.foldl addL a) := by
  induction l generalizing a with
  | nil => exact h
  | cons x l ih => exact ih (asc_addL h)
theorem mem_foldl {l a : List Int} {x : Int} : x ∈ l.foldl addL a ↔ x ∈ a ∨ (x ∈ l ∧ inB x = true) := by
  induction l generalizing a with
  | nil => simp
  | cons y l ih =>
    rw [List.foldl_cons, ih, mem_addL]
    constructor
    · rintro ((⟨rfl, h⟩ | h) | ⟨h1, h2⟩)
      · exact .inr ⟨List.mem_cons_self .., h⟩
      · exact .inl h
      · exact .inr ⟨List.mem_cons_of_mem _ h1, h2⟩
    · rintro (h | ⟨h1, h2⟩)
      · exact .inl (.inr h)
      · rcases List.mem_cons.1 h1 with rfl | h1
        · exact .inl (.inl ⟨rfl, h2⟩)
        · exact .inr ⟨h1, h2⟩
theorem asc_listP (p : Nat → Bool) : Asc (listP p) := by
  unfold Asc listP
  rw [List.pairwise_map]
  refine List.Pairwise.filter _ ?_
  exact (List.pairwise_lt_range (n := 512)).imp (fun h => by omega)
theorem mem_listP {p : Nat → Bool} {x : Int} : x ∈ listP p ↔ inB x = true ∧ p x.toNat = true := by
  unfold listP
  rw [List.mem_map, inB_iff]
  constructor
  · rintro ⟨k, hk, rfl⟩
    have := List.mem_filter.1 hk
    have h1 : k < 512 := by simpa using this.1
    exact ⟨by omega, by simpa using this.2⟩
  · rintro ⟨⟨h0, h1⟩, h2⟩
    exact ⟨x.toNat, List.mem_filter.2 ⟨by simp; omega, h2⟩, by omega⟩
/-- A set: ascending, each element in its bounds. -/
def IsSet (l : List Int) : Prop := Asc l ∧ ∀ x ∈ l, inB x = true
theorem IsSet.nil : IsSet [] := ⟨List.Pairwise.nil, fun _ h => by cases h⟩
theorem IsSet.listP (p : Nat → Bool) : IsSet (listP p) := ⟨asc_listP p, fun _ h => (mem_listP.1 h).1⟩
theorem IsSet.addL {l : List Int} (h : IsSet l) (n : Int) : IsSet (addL l n) := ⟨asc_addL h.1, fun x hx => by
  rcases mem_addL.1 hx with ⟨rfl, h⟩ | hx
  · exact h
  · exact h.2 x hx⟩
theorem IsSet.filter {l : List Int} (h : IsSet l) (p : Int → Bool) : IsSet (l.filter p) := ⟨List.Pairwise.filter _ h.1, fun x hx => h.2 x (List.mem_filter.1 hx).1⟩
theorem IsSet.union {a b : List Int} (h : IsSet a) : IsSet (unionL a b) := ⟨asc_foldl h.1, fun x hx => by
  rcases mem_foldl.1 hx with hx | hx
  · exact h.2 x hx
  · exact hx.2⟩
theorem IsSet.ofL (l : List Int) : IsSet (ofL l) := IsSet.union (a := []) IsSet.nil
theorem IsSet.length {l : List Int} (h : IsSet l) : l.length ≤ 512 := by
  have e : l = Go.Proofs.YtjfkdjlmajfljaaDoor.listP (memP l) := asc_eq h.1 (asc_listP _) fun x => by
    rw [mem_listP]
    constructor
    · intro hx
      have := inB_iff.1 (h.2 x hx)
      refine ⟨h.2 x hx, ?_⟩
      unfold memP
      have e : ((x.toNat : Nat) : Int) = x := by omega
      rw [e]; simp [hx]; omega
    · rintro ⟨h1, h2⟩
      have := inB_iff.1 h1
      unfold memP at h2
      have e : ((x.toNat : Nat) : Int) = x := by omega
      rw [e] at h2
      simp at h2
      exact h2.1
  rw [e]
  exact wordsL_length _ 8 (by omega)
theorem memP_at {l : List Int} {x : Int} (h : inB x = true) : memP l x.toNat = decide (x ∈ l) := by
  have := inB_iff.1 h
  unfold memP
  have e : ((x.toNat : Nat) : Int) = x := by omega
  have : x.toNat < 512 := by omega
  rw [e]; simp [this]
theorem listP_of (l : List Int) : listP (memP l) = ofL l := asc_eq (asc_listP _) (IsSet.ofL l).1 fun x => by
  rw [mem_listP]
  unfold ofL
  rw [mem_foldl]
  constructor
  · rintro ⟨h1, h2⟩; rw [memP_at h1] at h2; exact .inr ⟨by simpa using h2, h1⟩
  · rintro (h | ⟨h1, h2⟩)
    · cases h
    · exact ⟨h2, by rw [memP_at h2]; simpa using h1⟩
theorem ofL_set {l : List Int} (h : IsSet l) : ofL l = l := asc_eq (IsSet.ofL l).1 h.1 fun x => by
  unfold ofL
  rw [mem_foldl]
  constructor
  · rintro (h | h)
    · cases h
    · exact h.1
  · intro hx; exact .inr ⟨hx, h.2 x hx⟩
theorem hasI_set {l : List Int} (h : IsSet l) (n : Int) : hasI (memP l) n = hasL l n := by
  unfold hasI hasL
  cases hn : inB n
  · simp
    intro hm
    rw [h.2 n hm] at hn
    cases hn
  · rw [memP_at hn]; simp
theorem listP_add {l : List Int} (h : IsSet l) (n : Int) : listP (putI (memP l) n true) = addL l n := by
  rw [memP_snoc, listP_of]
  unfold ofL
  rw [List.foldl_append]
  show addL (ofL l) n = _
  rw [ofL_set h]
theorem putI_at {p : Nat → Bool} {n x : Int} {b : Bool} (h : inB x = true) : putI p n b x.toNat = if x = n then b else p x.toNat := by
  have hx := inB_iff.1 h
  unfold putI
  cases hn : inB n
  · have : x ≠ n := by rintro rfl; rw [h] at hn; cases hn
    simp [this]
  · have hn' := inB_iff.1 hn
    unfold putP
    by_cases e : x = n
    · subst e; simp
    · have : ¬ x.toNat = n.toNat := by omega
      simp [e, this]
theorem listP_remove {l : List Int} (h : IsSet l) (n : Int) : listP (putI (memP l) n false) = remL l n := asc_eq (asc_listP _) (h.filter _).1 fun x => by
  unfold remL
  rw [mem_listP, List.mem_filter]
  constructor
  · rintro ⟨h1, h2⟩
    rw [putI_at h1, memP_at h1] at h2
    by_cases e : x = n
    · simp [e] at h2
    · simp [e] at h2
      exact ⟨h2, by simpa using e⟩
  · rintro ⟨h1, h2⟩
    have e : ¬ x = n := by simpa using h2
    exact ⟨h.2 x h1, by rw [putI_at (h.2 x h1), memP_at (h.2 x h1)]; simp [e, h1]⟩
theorem listP_union {a b : List Int} (ha : IsSet a) : listP (fun k => memP a k || memP b k) = unionL a b := asc_eq (asc_listP _) (IsSet.union ha).1 fun x => by
  unfold unionL
  rw [mem_listP, mem_foldl]
  constructor
  · rintro ⟨h1, h2⟩
    rw [memP_at h1, memP_at h1] at h2
    simp at h2
    rcases h2 with h2 | h2
    · exact .inl h2
    · exact .inr ⟨h2, h1⟩
  · rintro (h | ⟨h, h1⟩)
    · exact ⟨ha.2 x h, by rw [memP_at (ha.2 x h)]; simp [h]⟩
    · exact ⟨h1, by rw [memP_at h1, memP_at h1]; simp [h]⟩
theorem listP_meet {a b : List Int} (ha : IsSet a) : listP (fun k => memP a k && memP b k) = meetL a b := asc_eq (asc_listP _) (ha.filter _).1 fun x => by
  unfold meetL hasL
  rw [mem_listP, List.mem_filter]
  constructor
  · rintro ⟨h1, h2⟩
    rw [memP_at h1, memP_at h1] at h2
    simpa using h2
  · rintro ⟨h1, h2⟩
    exact ⟨ha.2 x h1, by rw [memP_at (ha.2 x h1), memP_at (ha.2 x h1)]; simpa using ⟨h1, by simpa using h2⟩⟩
theorem listP_minus {a b : List Int} (ha : IsSet a) : listP (fun k => memP a k && !memP b k) = minusL a b := asc_eq (asc_listP _) (ha.filter _).1 fun x => by
  unfold minusL hasL
  rw [mem_listP, List.mem_filter]
  constructor
  · rintro ⟨h1, h2⟩
    rw [memP_at h1, memP_at h1] at h2
    simpa using h2
  · rintro ⟨h1, h2⟩
    exact ⟨ha.2 x h1, by rw [memP_at (ha.2 x h1), memP_at (ha.2 x h1)]; simpa using ⟨h1, by simpa using h2⟩⟩
theorem checkL_set {l : List Int} (h : IsSet l) : checkL l = true := checkL_ok fun k hk => by
  rcases Nat.eq_zero_or_pos k with rfl | hpos
  · rw [okAt_zero hk]; exact h.2 _ (List.getElem_mem hk)
  · obtain ⟨j, rfl⟩ : ∃ j, k = j + 1 := ⟨k - 1, by omega⟩
    rw [okAt_succ hk, h.2 _ (List.getElem_mem hk)]
    have := List.pairwise_iff_getElem.1 h.1 j (j + 1) (by omega) hk (by omega)
    simpa using this
theorem withinL_iff {a b : List Int} : withinL a b = a.all (fun x => hasL b x) := by
  unfold withinL minusL
  cases h : a.all (fun x => hasL b x)
  · rw [List.all_eq_false] at h
    obtain ⟨x, hx, hn⟩ := h
    rw [List.isEmpty_eq_false_iff]
    intro e
    have := List.filter_eq_nil_iff.1 e x hx
    simp at this hn
    rw [hn] at this; cases this
  · rw [List.all_eq_true] at h
    rw [List.isEmpty_iff, List.filter_eq_nil_iff]
    intro x hx
    simp [h x hx]
end Go.Proofs.YtjfkdjlmajfljaaDoor
