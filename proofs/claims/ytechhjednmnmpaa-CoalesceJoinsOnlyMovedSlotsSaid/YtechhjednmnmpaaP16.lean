/- Liveness: what an instruction reads and writes, the least solution, greater annotations, the check. -/
import Derived.Test.YtechhjednmnmpaaP4
set_option linter.unusedVariables false
set_option linter.unusedSimpArgs false
namespace Go.Proofs.Ytechhjednmnmpaa.Q
def remB (x : AInstr) : Bool := decide (x.Op = 16) || decide (x.Op = 17)
theorem removable_sp (x : AInstr) : WP (r15_Removable x) (· = remB x) := by
  unfold r15_Removable remB
  (repeat' (first | (refine WP.chk (by (first | omega | (simp only [okI, List.length_append, List.length_cons, List.length_nil, length_setD, length_repD] at *; omega))) fun _ => ?_) | ((refine WP.bif (fun wh => ?_) (fun wh => ?_)) <;> (try simp only [wpH, ne_eq] at wh) <;> (try (exfalso; omega)))))
  all_goals (refine WP.ret ?_; simp [wh])
theorem defines_sp (x : AInstr) : WP (r15_Defines x) (· = if remB x then (x.A, true) else (0, false)) := by
  unfold r15_Defines
  refine WP.call (removable_sp x) ?_
  rintro _ rfl
  (repeat' (first | (refine WP.chk (by (first | omega | (simp only [okI, List.length_append, List.length_cons, List.length_nil, length_setD, length_repD] at *; omega))) fun _ => ?_) | ((refine WP.bif (fun wh => ?_) (fun wh => ?_)) <;> (try simp only [wpH, ne_eq] at wh) <;> (try (exfalso; omega)))))
  all_goals (refine WP.ret ?_; simp [wh])
def useS (x : AInstr) : List Int := if x.Op = 15 ∨ x.Op = 17 then [x.B] else []
theorem uses_sp (x : AInstr) : WP (r15_Uses x) (· = useS x) := by
  unfold r15_Uses useS
  (repeat' (first | (refine WP.chk (by (first | omega | (simp only [okI, List.length_append, List.length_cons, List.length_nil, length_setD, length_repD] at *; omega))) fun _ => ?_) | ((refine WP.bif (fun wh => ?_) (fun wh => ?_)) <;> (try simp only [wpH, ne_eq] at wh) <;> (try (exfalso; omega)))))
  all_goals (refine WP.ret ?_; simp [wh])
  all_goals (intro h; omega)
def outS (x : AInstr) (s : List Int) : List Int := if remB x then s.filter (fun y => y != x.A) else s
def inSet (x : AInstr) (s : List Int) : List Int := unionS (outS x s) (useS x)
theorem in_sp (x : AInstr) (s : List Int) (hl : s.length ≤ 1000000) : WP (r15_In x s) (· = inSet x s) := by
  have hu : (useS x).length ≤ 1 := by unfold useS; split <;> simp
  have ho : (outS x s).length ≤ s.length := by
    unfold outS
    split
    · exact List.length_filter_le _ _
    · exact Nat.le_refl _
  unfold r15_In
  refine WP.join (fun o => o = outS x s) ?_ ?_
  · rintro _ rfl
    refine WP.call (uses_sp x) ?_
    rintro _ rfl
    refine WP.call (union_sp _ _ (by omega)) ?_
    rintro _ rfl
    exact WP.ret rfl
  · intro k hk
    refine WP.call (defines_sp x) ?_
    rintro _ rfl
    unfold outS at hk
    split
    · rename_i h
      rw [if_pos h] at hk
      refine WP.bif (fun _ => ?_) (fun wh => by cases wh)
      refine WP.call (remove_sp _ _ (by omega)) ?_
      rintro _ rfl
      exact hk _ rfl
    · rename_i h
      rw [if_neg h] at hk
      refine WP.bif (fun wh => by cases wh) (fun _ => ?_)
      exact hk _ rfl
theorem mem_outS {x : AInstr} {s : List Int} {y : Int} : y ∈ outS x s ↔ y ∈ s ∧ ¬ (remB x = true ∧ y = x.A) := by
  unfold outS
  split
  · rename_i h
    rw [List.mem_filter]
    simp [h]
  · rename_i h
    simp [h]
theorem IsS.out {s : List Int} (h : IsS s) (x : AInstr) : IsS (outS x s) := by
  unfold outS
  split
  · exact h.filter _
  · exact h
theorem mem_inSet {x : AInstr} {s : List Int} {y : Int} : y ∈ inSet x s ↔ (y ∈ s ∧ ¬ (remB x = true ∧ y = x.A)) ∨ (y ∈ useS x ∧ 0 ≤ y ∧ y < 512) := by
  unfold inSet
  rw [mem_unionS, mem_outS]
theorem IsS.inSet {s : List Int} (h : IsS s) (x : AInstr) : IsS (Go.Proofs.Ytechhjednmnmpaa.Q.inSet x s) := (h.out x).union _
/-- The instructions that follow. -/
def nextS (f : AFunc) (k : Int) : List Int :=
  if k < 0 ∨ (f.Code.length : Int) ≤ k then []
  else if (atD f.Code k).Op = 20 then [(atD f.Code k).A]
  else if (atD f.Code k).Op = 23 ∨ (atD f.Code k).Op = 24 then []
  else if (atD f.Code k).Op = 21 then (if (atD f.Code k).B < k + 1 then [(atD f.Code k).B, k + 1] else if k + 1 < (atD f.Code k).B then [k + 1, (atD f.Code k).B] else [k + 1])
  else [k + 1]
theorem next13_sp (f : AFunc) (k : Int) (hl : f.Code.length ≤ 1000000) : WP (r13_Next f k) (· = nextS f k) := by
  unfold r13_Next nextS
  refine WP.bif (fun wh => ?_) (fun wh => ?_) <;> (try simp only [wpH, ne_eq] at wh)
  · exact WP.ret (by rw [if_pos (.inl wh)])
  refine WP.bif (fun wh => ?_) (fun wh => ?_) <;> (try simp only [wpH, ne_eq] at wh)
  · exact WP.ret (by rw [if_pos (.inr wh)])
  rw [if_neg (by omega)]
  (first | (refine WP.chk (by (first | omega | (simp only [okI, List.length_append, List.length_cons, List.length_nil, length_setD, length_repD] at *; omega))) fun _ => ?_) | ((refine WP.bif (fun wh => ?_) (fun wh => ?_)) <;> (try simp only [wpH, ne_eq] at wh) <;> (try (exfalso; omega))))
  refine WP.bif (fun wh => ?_) (fun wh => ?_) <;> (try simp only [wpH, ne_eq] at wh)
  · (repeat' (first | (refine WP.chk (by (first | omega | (simp only [okI, List.length_append, List.length_cons, List.length_nil, length_setD, length_repD] at *; omega))) fun _ => ?_) | ((refine WP.bif (fun wh => ?_) (fun wh => ?_)) <;> (try simp only [wpH, ne_eq] at wh) <;> (try (exfalso; omega)))))
    exact WP.ret (by rw [if_pos wh])
  rw [if_neg wh]
  refine WP.join (fun b => b = (decide ((atD f.Code k).Op = 23) || decide ((atD f.Code k).Op = 24))) ?_ ?_
  · rintro _ rfl
    (repeat' (first | (refine WP.chk (by (first | omega | (simp only [okI, List.length_append, List.length_cons, List.length_nil, length_setD, length_repD] at *; omega))) fun _ => ?_) | ((refine WP.bif (fun wh => ?_) (fun wh => ?_)) <;> (try simp only [wpH, ne_eq] at wh) <;> (try (exfalso; omega)))))
    all_goals (refine WP.ret ?_; (try simp only [Bool.or_eq_false_iff, decide_eq_false_iff_not] at *); repeat' split)
    all_goals (first | rfl | (exfalso; omega))
  · intro k2 hk2
    (repeat' (first | (refine WP.chk (by (first | omega | (simp only [okI, List.length_append, List.length_cons, List.length_nil, length_setD, length_repD] at *; omega))) fun _ => ?_) | ((refine WP.bif (fun wh => ?_) (fun wh => ?_)) <;> (try simp only [wpH, ne_eq] at wh) <;> (try (exfalso; omega)))))
    all_goals (refine hk2 _ ?_; simp [wh])
theorem WfI.use {n i par : Int} {sl : List ASlot} {J : Int → Prop} {x : AInstr} (h : WfI n i par sl J x) {y : Int} (hy : y ∈ useS x) : inN y sl.length := by
  unfold useS at hy
  cases h <;> simp at hy
  case load a s ha hs => subst hy; exact hs
  case move s t hs ht he => subst hy; exact ht
  all_goals (obtain ⟨h1, rfl⟩ := hy; exfalso; omega)
theorem WfI.dfn {n i par : Int} {sl : List ASlot} {J : Int → Prop} {x : AInstr} (h : WfI n i par sl J x) (hx : remB x = true) : inN x.A sl.length := by
  unfold remB at hx
  cases h <;> simp at hx
  case store s a hs ha => exact hs
  case move s t hs ht he => exact hs
  all_goals (exfalso; omega)
theorem WfF.at_ {n i par : Int} {f : AFunc} (h : WfF n i par f) {k : Int} (hk : inN k f.Code.length) : WfI n i par f.Slots (fun t => inN t f.Code.length) (atD f.Code k) := h.instr _ (atD_mem hk)
theorem WfF.next {n i par : Int} {f : AFunc} (h : WfF n i par f) {k j : Int} (hj : j ∈ nextS f k) : inN k f.Code.length ∧ inN j f.Code.length := by
  have hlen := h.code.1
  unfold nextS at hj
  split at hj
  · cases hj
  rename_i h1
  have hk : inN k f.Code.length := ⟨by omega, by omega⟩
  refine ⟨hk, ?_⟩
  have hx := h.at_ hk
  have hlast := h.last
  split at hj
  · rename_i h2
    rw [one_mem hj]
    generalize atD f.Code k = x at *
    cases hx <;> first | assumption | (simp at h2; done) | (exfalso; dsimp only at h2; omega)
  rename_i h2
  split at hj
  · cases hj
  rename_i h3
  have hk1 : inN (k + 1) f.Code.length := by
    refine ⟨by have := hk.1; omega, ?_⟩
    have := hk.2
    by_cases he : k = (f.Code.length : Int) - 1
    · rw [he] at h3; exact (h3 hlast).elim
    · omega
  split at hj
  · rename_i h4
    have hB : inN (atD f.Code k).B f.Code.length := by
      generalize atD f.Code k = x at *
      cases hx <;> first | assumption | (simp at h4; done) | (exfalso; dsimp only at h4; omega)
    split at hj
    · rcases List.mem_cons.1 hj with rfl | hj
      · exact hB
      · rw [one_mem hj]; exact hk1
    · split at hj
      · rcases List.mem_cons.1 hj with rfl | hj
        · exact hk1
        · rw [one_mem hj]; exact hB
      · rw [one_mem hj]; exact hk1
  · rw [one_mem hj]; exact hk1
theorem nextS_length (f : AFunc) (k : Int) : (nextS f k).length ≤ 2 := by
  unfold nextS
  repeat' split
  all_goals simp
/-! ### Annotations -/
/-- Sets of slots, one for each instruction. -/
structure AnnS (f : AFunc) (out : List (List Int)) : Prop where
  len : out.length = f.Code.length
  set : ∀ k, inN k f.Code.length → IsS (atD out k) ∧ ∀ y ∈ atD out k, y < f.Slots.length
theorem AnnS.mem {f : AFunc} {out : List (List Int)} (h : AnnS f out) : ∀ s ∈ out, s.length ≤ 512 := fun s hs => by
  obtain ⟨k, h1, h2, rfl⟩ := mem_atD hs
  exact (h.set k ⟨h1, by rw [← h.len]; exact h2⟩).1.length
theorem mem_foldU {g : Int → List Int} {y : Int} : ∀ (l : List Int) (a : List Int), y ∈ l.foldl (fun acc j => unionS acc (g j)) a ↔ y ∈ a ∨ ∃ j ∈ l, y ∈ g j ∧ 0 ≤ y ∧ y < 512
  | [], a => by simp
  | x :: r, a => by
    rw [List.foldl_cons, mem_foldU r, mem_unionS]
    constructor
    · rintro ((h | h) | ⟨j, h1, h2⟩)
      · exact .inl h
      · exact .inr ⟨x, List.mem_cons_self, h⟩
      · exact .inr ⟨j, List.mem_cons_of_mem _ h1, h2⟩
    · rintro (h | ⟨j, h1, h2⟩)
      · exact .inl (.inl h)
      · rcases List.mem_cons.1 h1 with rfl | h1
        · exact .inl (.inr h2)
        · exact .inr ⟨j, h1, h2⟩
theorem IsS.foldU {g : Int → List Int} : ∀ (l : List Int) {a : List Int}, IsS a → IsS (l.foldl (fun acc j => unionS acc (g j)) a)
  | [], _, h => h
  | x :: r, _, h => IsS.foldU r (h.union _)
/-- The right side of the equation at k. -/
def stepAt (f : AFunc) (out : List (List Int)) (k : Int) : List Int := (nextS f k).foldl (fun acc j => unionS acc (inSet (atD f.Code j) (atD out j))) []
theorem IsS.stepAt (f : AFunc) (out : List (List Int)) (k : Int) : IsS (Go.Proofs.Ytechhjednmnmpaa.Q.stepAt f out k) := IsS.foldU _ IsS.nil
section
variable {n i par : Int} {f : AFunc} {out : List (List Int)}
theorem mem_stepAt (hf : WfF n i par f) (h : AnnS f out) {k y : Int} : y ∈ stepAt f out k ↔ ∃ j ∈ nextS f k, y ∈ inSet (atD f.Code j) (atD out j) := by
  unfold stepAt
  rw [mem_foldU]
  constructor
  · rintro (h | ⟨j, h1, h2, _⟩)
    · cases h
    · exact ⟨j, h1, h2⟩
  · rintro ⟨j, h1, h2⟩
    exact .inr ⟨j, h1, h2, ((h.set j (hf.next h1).2).1.inSet _).rng y h2⟩
theorem stepAt_lt (hf : WfF n i par f) (h : AnnS f out) {k y : Int} (hy : y ∈ stepAt f out k) : y < f.Slots.length := by
  obtain ⟨j, h1, h2⟩ := (mem_stepAt hf h).1 hy
  have hj := (hf.next h1).2
  rcases mem_inSet.1 h2 with h3 | h3
  · exact (h.set j hj).2 y h3.1
  · exact ((hf.at_ hj).use h3.1).2
theorem step16_sp (hf : WfF n i par f) (h : AnnS f out) : WP (r16_Step f ⟨out⟩) fun r => r.Out.length = f.Code.length ∧ ∀ k, inN k f.Code.length → atD r.Out k = stepAt f out k := by
  have hc := hf.code
  have hout := h.len
  unfold r16_Step
  (repeat' (first | (refine WP.chk (by (first | omega | (simp only [okI, List.length_append, List.length_cons, List.length_nil, length_setD, length_repD] at *; omega))) fun _ => ?_) | ((refine WP.bif (fun wh => ?_) (fun wh => ?_)) <;> (try simp only [wpH, ne_eq] at wh) <;> (try (exfalso; omega)))))
  dsimp only
  have hrep : ∀ k : Int, atD (repD (f.Code.length : Int) : List (List Int)) k = [] := fun k => by
    unfold atD repD
    rw [List.getD_eq_getElem?_getD, List.getElem?_replicate]
    split <;> rfl
  refine WP.loop (fun j => 0 ≤ j.1 ∧ j.1 ≤ f.Code.length ∧ j.2.length = f.Code.length ∧ (∀ t, 0 ≤ t → t < j.1 → atD j.2 t = stepAt f out t) ∧ ∀ t, j.1 ≤ t → t < f.Code.length → atD j.2 t = []) (fun j => f.Code.length - j.1.toNat) ⟨by simp, by simp, by dsimp only; rw [length_repD]; omega, by intro t h1 h2; dsimp only at h2; omega, fun t _ _ => hrep t⟩ ?_
  rintro again1 ⟨k, own⟩ ⟨a1, a2, a3, a4, a5⟩ ih1
  dsimp only at a1 a2 a3 a4 a5 ih1 ⊢
  refine WP.bif (fun wh => ?_) (fun wh => ?_) <;> (try simp only [wpH, ne_eq] at wh)
  · have hk : inN k f.Code.length := ⟨a1, wh⟩
    refine WP.call (next13_sp f k (by omega)) ?_
    rintro _ rfl
    have hnl := nextS_length f k
    refine WP.loop (fun j => 0 ≤ j.1 ∧ j.1 ≤ (nextS f k).length ∧ j.2.length = f.Code.length ∧ (∀ t, 0 ≤ t → t ≠ k → atD j.2 t = atD own t) ∧ atD j.2 k = ((nextS f k).take j.1.toNat).foldl (fun acc j => unionS acc (inSet (atD f.Code j) (atD out j))) []) (fun j => (nextS f k).length - j.1.toNat) ⟨by simp, by simp, a3, fun t _ _ => rfl, by dsimp only; rw [a5 k (Int.le_refl _) wh]; rfl⟩ ?_
    rintro again2 ⟨t, own2⟩ ⟨b1, b2, b3, b4, b5⟩ ih2
    dsimp only at b1 b2 b3 b4 b5 ih2 ⊢
    refine WP.bif (fun wh => ?_) (fun wh => ?_) <;> (try simp only [wpH, ne_eq] at wh)
    · have hm : atD (nextS f k) t ∈ nextS f k := atD_mem ⟨b1, wh⟩
      have hj := (hf.next hm).2
      obtain ⟨hj1, hj2⟩ := hj
      have hS := h.set _ ⟨hj1, hj2⟩
      have hl := hS.1.length
      have hown : IsS (atD own2 k) := by rw [b5]; exact IsS.foldU _ IsS.nil
      have hol := hown.length
      have htk := take_atD (l := nextS f k) (k := t) ⟨b1, by omega⟩
      generalize hjj : atD (nextS f k) t = jj at *
      (repeat' (first | (refine WP.chk (by (first | omega | (simp only [okI, List.length_append, List.length_cons, List.length_nil, length_setD, length_repD] at *; omega))) fun _ => ?_) | ((refine WP.bif (fun wh => ?_) (fun wh => ?_)) <;> (try simp only [wpH, ne_eq] at wh) <;> (try (exfalso; omega)))))
      refine WP.call (in_sp _ _ (by omega)) ?_
      rintro _ rfl
      have hil := (hS.1.inSet (atD f.Code jj)).length
      refine WP.call (union_sp _ _ (by omega)) ?_
      rintro _ rfl
      (repeat' (first | (refine WP.chk (by (first | omega | (simp only [okI, List.length_append, List.length_cons, List.length_nil, length_setD, length_repD] at *; omega))) fun _ => ?_) | ((refine WP.bif (fun wh => ?_) (fun wh => ?_)) <;> (try simp only [wpH, ne_eq] at wh) <;> (try (exfalso; omega)))))
      refine ih2 _ ⟨by dsimp only; omega, by dsimp only; omega, by dsimp only; rw [length_setD, b3], fun u h1 h2 => ?_, ?_⟩ (by dsimp only; omega)
      · dsimp only
        rw [atD_setD ⟨a1, by omega⟩ h1, if_neg h2]
        exact b4 u h1 h2
      · dsimp only
        rw [atD_setD ⟨a1, by omega⟩ a1, if_pos rfl, htk, List.foldl_append, ← b5]
        rfl
    · (repeat' (first | (refine WP.chk (by (first | omega | (simp only [okI, List.length_append, List.length_cons, List.length_nil, length_setD, length_repD] at *; omega))) fun _ => ?_) | ((refine WP.bif (fun wh => ?_) (fun wh => ?_)) <;> (try simp only [wpH, ne_eq] at wh) <;> (try (exfalso; omega)))))
      rw [take_all (by omega)] at b5
      refine ih1 _ ⟨by dsimp only; omega, by dsimp only; omega, b3, fun u h1 h2 => ?_, fun u h1 h2 => ?_⟩ (by dsimp only; omega)
      · dsimp only at h2 ⊢
        by_cases hu : u = k
        · rw [hu]; exact b5
        · rw [b4 u h1 hu]; exact a4 u h1 (by omega)
      · dsimp only at h1 ⊢
        rw [b4 u (by omega) (by omega)]; exact a5 u (by omega) h2
  · exact WP.ret ⟨a3, fun u hu => a4 u hu.1 (by have := hu.2; omega)⟩
/-- An annotation that says enough. -/
structure Live (f : AFunc) (out : List (List Int)) : Prop where
  ann : AnnS f out
  ge : ∀ k, inN k f.Code.length → ∀ y ∈ stepAt f out k, y ∈ atD out k
/-- The least one. -/
structure Least (f : AFunc) (out : List (List Int)) : Prop where
  live : Live f out
  fix : ∀ k, inN k f.Code.length → ∀ y ∈ atD out k, y ∈ stepAt f out k
  least : ∀ X, Live f X → ∀ k, inN k f.Code.length → ∀ y ∈ atD out k, y ∈ atD X k
theorem sub_length {a b : List Int} (ha : IsS a) (hb : IsS b) (h : ∀ x ∈ a, x ∈ b) : a.length ≤ b.length ∧ (a.length = b.length → a = b) := by
  have e : b.filter (fun x => decide (x ∈ a)) = a := (hb.filter _).ext ha fun x => by
    rw [List.mem_filter, decide_eq_true_eq]
    exact ⟨fun q => q.2, fun q => ⟨h x q, q⟩⟩
  refine ⟨by rw [← e]; exact List.length_filter_le _ _, fun hl => ha.ext hb fun x => ⟨h x, fun hx => ?_⟩⟩
  rw [← e, List.length_filter_eq_length_iff] at hl
  simpa using hl x hx
def total (l : List (List Int)) : Nat := (l.map List.length).sum
theorem total_le : ∀ {a b : List (List Int)}, a.length = b.length → (∀ (i : Nat) (h1 : i < a.length) (h2 : i < b.length), a[i].length ≤ b[i].length) → total a ≤ total b ∧ (total a = total b → ∀ (i : Nat) (h1 : i < a.length) (h2 : i < b.length), a[i].length = b[i].length)
  | [], [], _, _ => ⟨Nat.le_refl _, fun _ i h1 _ => by simp at h1⟩
  | [], _ :: _, h, _ => by simp at h
  | _ :: _, [], h, _ => by simp at h
  | x :: a, y :: b, hl, h => by
    have h0 := h 0 (by simp) (by simp)
    have hs : ∀ (i : Nat) (h1 : i < a.length) (h2 : i < b.length), a[i].length ≤ b[i].length := fun i h1 h2 => h (i + 1) (by simp; omega) (by simp; omega)
    obtain ⟨h3, h4⟩ := total_le (a := a) (b := b) (by simpa using hl) hs
    have e1 : total (x :: a) = x.length + total a := by simp [total]
    have e2 : total (y :: b) = y.length + total b := by simp [total]
    simp only [List.getElem_cons_zero] at h0
    rw [e1, e2]
    refine ⟨by omega, fun he i h1 h2 => ?_⟩
    cases i with
    | zero => simp; omega
    | succ i => simpa using h4 (by omega) i (by simpa using h1) (by simpa using h2)
theorem total_bound {m : Nat} : ∀ {a : List (List Int)}, (∀ s ∈ a, s.length ≤ m) → total a ≤ a.length * m
  | [], _ => by simp [total]
  | x :: a, h => by
    have h1 := total_bound (a := a) fun s hs => h s (List.mem_cons_of_mem _ hs)
    have h2 := h x List.mem_cons_self
    have e1 : total (x :: a) = x.length + total a := by simp [total]
    rw [e1, List.length_cons, Nat.succ_mul]; omega
theorem stepAt_mono (hf : WfF n i par f) {X Y : List (List Int)} (hX : AnnS f X) (hY : AnnS f Y) (h : ∀ k, inN k f.Code.length → ∀ y ∈ atD X k, y ∈ atD Y k) {k y : Int} (hy : y ∈ stepAt f X k) : y ∈ stepAt f Y k := by
  obtain ⟨j, h1, h2⟩ := (mem_stepAt hf hX).1 hy
  refine (mem_stepAt hf hY).2 ⟨j, h1, ?_⟩
  rw [mem_inSet] at h2 ⊢
  rcases h2 with h2 | h2
  · exact .inl ⟨h j (hf.next h1).2 y h2.1, h2.2⟩
  · exact .inr h2
theorem solve_sp (hf : WfF n i par f) : WP (r16_Solve f) fun l => Least f l.Out := by
  have hc := hf.code
  unfold r16_Solve
  (repeat' (first | (refine WP.chk (by (first | omega | (simp only [okI, List.length_append, List.length_cons, List.length_nil, length_setD, length_repD] at *; omega))) fun _ => ?_) | ((refine WP.bif (fun wh => ?_) (fun wh => ?_)) <;> (try simp only [wpH, ne_eq] at wh) <;> (try (exfalso; omega)))))
  have hrep : ∀ k : Int, atD (repD (f.Code.length : Int) : List (List Int)) k = [] := fun k => by
    unfold atD repD
    rw [List.getD_eq_getElem?_getD, List.getElem?_replicate]
    split <;> rfl
  refine WP.loop (fun out => AnnS f out ∧ (∀ k, inN k f.Code.length → ∀ y ∈ atD out k, y ∈ stepAt f out k) ∧ ∀ X, Live f X → ∀ k, inN k f.Code.length → ∀ y ∈ atD out k, y ∈ atD X k) (fun out => f.Code.length * 512 - total out) ⟨⟨by rw [length_repD]; omega, fun k _ => by rw [hrep]; exact ⟨IsS.nil, by simp⟩⟩, fun k _ y hy => (by rw [hrep] at hy; cases hy), fun X _ k _ y hy => (by rw [hrep] at hy; cases hy)⟩ ?_
  rintro again out ⟨a1, a2, a3⟩ ih
  refine WP.call (step16_sp hf a1) fun x1 ⟨b1, b2⟩ => ?_
  have hA : AnnS f x1.Out := ⟨b1, fun k hk => by rw [b2 k hk]; exact ⟨IsS.stepAt _ _ _, fun y hy => stepAt_lt hf a1 hy⟩⟩
  unfold r16_Same
  refine WP.call (R := fun b => b = decide (x1.Out = out)) ?_ ?_
  · refine WP.call (sameAll_sp x1.Out out (by omega) fun s hs => by have := hA.mem s hs; omega) ?_
    rintro _ rfl
    exact WP.ret rfl
  rintro _ rfl
  refine WP.bif (fun wh => ?_) (fun wh => ?_) <;> (try simp only [wpH, ne_eq] at wh)
  · refine WP.ret ⟨⟨a1, fun k hk y hy => ?_⟩, a2, a3⟩
    rw [← b2 k hk, wh] at hy
    exact hy
  · have hsub : ∀ k, inN k f.Code.length → ∀ y ∈ atD out k, y ∈ atD x1.Out k := fun k hk y hy => by rw [b2 k hk]; exact a2 k hk y hy
    refine ih _ ⟨hA, fun k hk y hy => ?_, fun X hX k hk y hy => ?_⟩ ?_
    · rw [b2 k hk] at hy
      exact stepAt_mono hf a1 hA hsub hy
    · rw [b2 k hk] at hy
      exact hX.ge k hk y (stepAt_mono hf a1 hX.ann (fun k hk => a3 X hX k hk) hy)
    · have hg : ∀ (l : List (List Int)) (t : Nat) (h : t < l.length), l[t] = atD l (t : Int) := fun l t h => (atD_nat h).symm
      have hle : ∀ (t : Nat) (h1 : t < out.length) (h2 : t < x1.Out.length), out[t].length ≤ x1.Out[t].length ∧ (out[t].length = x1.Out[t].length → out[t] = x1.Out[t]) := fun t h1 h2 => by
        have hk : inN (t : Int) f.Code.length := ⟨by omega, by rw [a1.len] at h1; omega⟩
        rw [hg out t h1, hg x1.Out t h2]
        exact sub_length (a1.set _ hk).1 (hA.set _ hk).1 (hsub _ hk)
      obtain ⟨q1, q2⟩ := total_le (a := out) (b := x1.Out) (by rw [a1.len, b1]) fun t h1 h2 => (hle t h1 h2).1
      have q3 := total_bound (m := 512) (a := x1.Out) hA.mem
      rw [b1] at q3
      have q4 : total out ≠ total x1.Out := fun he => wh (List.ext_getElem (by rw [a1.len, b1]) fun t h2 h1 => ((hle t h1 h2).2 (q2 he t h1 h2)).symm)
      omega
theorem Live.add (hf : WfF n i par f) {X Y : List (List Int)} {s : Int} (hs : inN s f.Slots.length) (h : Live f X) (hl : Y.length = X.length) (hY : ∀ k, inN k f.Code.length → atD Y k = addS (atD X k) s) : Live f Y := by
  have hsl := hf.slots
  obtain ⟨hs1, hs2⟩ := hs
  have hA : AnnS f Y := ⟨by rw [hl, h.ann.len], fun k hk => by
    rw [hY k hk]
    refine ⟨(h.ann.set k hk).1.add s, fun y hy => ?_⟩
    rcases mem_addS.1 hy with hy | ⟨rfl, _⟩
    · exact (h.ann.set k hk).2 y hy
    · exact hs2⟩
  refine ⟨hA, fun k hk y hy => ?_⟩
  rw [hY k hk, mem_addS]
  obtain ⟨j, h1, h2⟩ := (mem_stepAt hf hA).1 hy
  have hj := (hf.next h1).2
  rw [hY j hj, mem_inSet, mem_addS] at h2
  by_cases hys : y = s
  · exact .inr ⟨hys, by omega, by omega⟩
  · refine .inl (h.ge k hk y ((mem_stepAt hf h.ann).2 ⟨j, h1, mem_inSet.2 ?_⟩))
    rcases h2 with ⟨h2 | h2, h3⟩ | h2
    · exact .inl ⟨h2, h3⟩
    · exact (hys h2.1).elim
    · exact .inr h2
theorem lives_sp (c : DCodes) (hc : okC c) (hf : WfF n i par f) : WP (draw_Lives c f) fun r => okC r.2 ∧ Live f r.1.Out := by
  have hcd := hf.code
  have hsl := hf.slots
  unfold draw_Lives
  refine WP.call (solve_sp hf) fun x1 h1 => ?_
  have h1l := h1.live.ann.len
  (repeat' (first | (refine WP.chk (by (first | omega | (simp only [okI, List.length_append, List.length_cons, List.length_nil, length_setD, length_repD] at *; omega))) fun _ => ?_) | ((refine WP.bif (fun wh => ?_) (fun wh => ?_)) <;> (try simp only [wpH, ne_eq] at wh) <;> (try (exfalso; omega)))))
  refine WP.call (next_sp c 3 hc (by omega)) fun x2 ⟨h2, h3, h4, _⟩ => ?_
  refine WP.loop (fun j => (0 ≤ j.1 ∧ j.1 ≤ 2) ∧ okC j.2.1 ∧ Live f j.2.2) (fun j => j.1.toNat) ⟨⟨h3, by omega⟩, h2, h1.live⟩ ?_
  rintro again1 ⟨m, c2, own⟩ ⟨a1, a2, a3⟩ ih
  dsimp only at a1 a2 a3 ih ⊢
  refine WP.bif (fun wh => ?_) (fun wh => ?_) <;> (try simp only [wpH, ne_eq] at wh)
  · refine WP.bif (fun wh => ?_) (fun wh => ?_) <;> (try simp only [wpH, ne_eq] at wh)
    · refine WP.call (next_sp c2 _ a2 (by omega)) fun x3 ⟨b1, b2, b3, _⟩ => ?_
      have b4 := b3 (by omega)
      have hol := a3.ann.len
      refine WP.loop (fun j => 0 ≤ j.1 ∧ j.1 ≤ own.length ∧ j.2.length = own.length ∧ (∀ t, 0 ≤ t → t < j.1 → atD j.2 t = addS (atD own t) x3.1) ∧ ∀ t, j.1 ≤ t → t < own.length → atD j.2 t = atD own t) (fun j => own.length - j.1.toNat) ⟨by simp, by simp, rfl, by intro t q1 q2; dsimp only at q2; omega, fun t _ _ => rfl⟩ ?_
      rintro again2 ⟨k, own2⟩ ⟨d1, d2, d3, d4, d5⟩ ih2
      dsimp only at d1 d2 d3 d4 d5 ih2 ⊢
      refine WP.bif (fun wh => ?_) (fun wh => ?_) <;> (try simp only [wpH, ne_eq] at wh)
      · have hkl : k < own.length := by omega
        have hS := a3.ann.set k ⟨d1, by omega⟩
        have hl5 := hS.1.length
        rw [← d5 k (Int.le_refl _) hkl] at hl5
        (repeat' (first | (refine WP.chk (by (first | omega | (simp only [okI, List.length_append, List.length_cons, List.length_nil, length_setD, length_repD] at *; omega))) fun _ => ?_) | ((refine WP.bif (fun wh => ?_) (fun wh => ?_)) <;> (try simp only [wpH, ne_eq] at wh) <;> (try (exfalso; omega)))))
        refine WP.call (add_sp _ _ (by omega)) ?_
        rintro _ rfl
        (repeat' (first | (refine WP.chk (by (first | omega | (simp only [okI, List.length_append, List.length_cons, List.length_nil, length_setD, length_repD] at *; omega))) fun _ => ?_) | ((refine WP.bif (fun wh => ?_) (fun wh => ?_)) <;> (try simp only [wpH, ne_eq] at wh) <;> (try (exfalso; omega)))))
        refine ih2 _ ⟨by dsimp only; omega, by dsimp only; omega, by dsimp only; rw [length_setD, d3], fun t q1 q2 => ?_, fun t q1 q2 => ?_⟩ (by dsimp only; omega)
        · dsimp only at q2 ⊢
          rw [atD_setD ⟨d1, by omega⟩ q1]
          split
          · rename_i q; rw [q, d5 k (Int.le_refl _) hkl]
          · exact d4 t q1 (by omega)
        · dsimp only at q1 ⊢
          rw [atD_setD ⟨d1, by omega⟩ (by omega), if_neg (by omega)]
          exact d5 t (by omega) q2
      · refine WP.chk ⟨by omega, by omega⟩ fun _ => ?_
        exact ih (m - 1, x3.2, own2) ⟨⟨by dsimp only; omega, by dsimp only; omega⟩, b1, a3.add hf ⟨b2, b4⟩ (by dsimp only; rw [d3]) fun k hk => d4 k hk.1 (by have := hk.2; omega)⟩ (by dsimp only; omega)
    · exact WP.ret ⟨a2, a3⟩
  · exact WP.ret ⟨a2, a3⟩
theorem shape17_sp (hf : f.Code.length ≤ 1000000) {l : ALive} (h : AnnS f l.Out) : WP (r17_shape f l) (· = true) := by
  have hl := h.len
  unfold r17_shape
  refine WP.bif (fun wh => ?_) (fun wh => ?_) <;> (try simp only [wpH, ne_eq] at wh)
  · exfalso; omega
  refine WP.loop (fun k => 0 ≤ k ∧ k ≤ l.Out.length) (fun k => l.Out.length - k.toNat) ⟨by omega, by omega⟩ ?_
  rintro again k ⟨a1, a2⟩ ih
  refine WP.bif (fun wh => ?_) (fun wh => ?_) <;> (try simp only [wpH, ne_eq] at wh)
  · have hS := h.set k ⟨a1, by omega⟩
    have hSl := hS.1.length
    (repeat' (first | (refine WP.chk (by (first | omega | (simp only [okI, List.length_append, List.length_cons, List.length_nil, length_setD, length_repD] at *; omega))) fun _ => ?_) | ((refine WP.bif (fun wh => ?_) (fun wh => ?_)) <;> (try simp only [wpH, ne_eq] at wh) <;> (try (exfalso; omega)))))
    refine WP.call (check4_sp _ (by omega)) ?_
    rintro _ rfl
    rw [ascS_iff.2 hS.1]
    (repeat' (first | (refine WP.chk (by (first | omega | (simp only [okI, List.length_append, List.length_cons, List.length_nil, length_setD, length_repD] at *; omega))) fun _ => ?_) | ((refine WP.bif (fun wh => ?_) (fun wh => ?_)) <;> (try simp only [wpH, ne_eq] at wh) <;> (try (exfalso; omega)))))
    · cases wh
    · exfalso
      have := hS.2 _ (atD_mem (l := atD l.Out k) (i := ((atD l.Out k).length : Int) - 1) ⟨by omega, by omega⟩)
      omega
    · exact ih _ ⟨by omega, by omega⟩ (by omega)
    · exact ih _ ⟨by omega, by omega⟩ (by omega)
  · exact WP.ret rfl
theorem missing17_sp (hf : WfF n i par f) {l : ALive} (h : Live f l.Out) {k : Int} (hk : inN k f.Code.length) : WP (r17_missing f l k) (· = []) := by
  have hc := hf.code
  have hl := h.ann.len
  obtain ⟨hk1, hk2⟩ := hk
  have hSk := (h.ann.set k ⟨hk1, hk2⟩).1.length
  unfold r17_missing
  refine WP.call (next13_sp f k (by omega)) ?_
  rintro _ rfl
  have hnl := nextS_length f k
  refine WP.loop (fun j => 0 ≤ j.2 ∧ j.2 ≤ (nextS f k).length ∧ j.1 = []) (fun j => (nextS f k).length - j.2.toNat) ⟨by simp, by simp, rfl⟩ ?_
  rintro again ⟨out, t⟩ ⟨a1, a2, rfl⟩ ih
  dsimp only at a1 a2 ih ⊢
  refine WP.bif (fun wh => ?_) (fun wh => ?_) <;> (try simp only [wpH, ne_eq] at wh)
  · have hm : atD (nextS f k) t ∈ nextS f k := atD_mem ⟨a1, wh⟩
    obtain ⟨hj1, hj2⟩ := (hf.next hm).2
    have hS := h.ann.set _ ⟨hj1, hj2⟩
    have hSl := hS.1.length
    have hsub : ∀ y ∈ inSet (atD f.Code (atD (nextS f k) t)) (atD l.Out (atD (nextS f k) t)), y ∈ atD l.Out k := fun y hy => h.ge k ⟨hk1, hk2⟩ y ((mem_stepAt hf h.ann).2 ⟨_, hm, hy⟩)
    generalize hjj : atD (nextS f k) t = jj at *
    have hil := (hS.1.inSet (atD f.Code jj)).length
    (repeat' (first | (refine WP.chk (by (first | omega | (simp only [okI, List.length_append, List.length_cons, List.length_nil, length_setD, length_repD] at *; omega))) fun _ => ?_) | ((refine WP.bif (fun wh => ?_) (fun wh => ?_)) <;> (try simp only [wpH, ne_eq] at wh) <;> (try (exfalso; omega)))))
    refine WP.call (in_sp _ _ (by omega)) ?_
    rintro _ rfl
    (repeat' (first | (refine WP.chk (by (first | omega | (simp only [okI, List.length_append, List.length_cons, List.length_nil, length_setD, length_repD] at *; omega))) fun _ => ?_) | ((refine WP.bif (fun wh => ?_) (fun wh => ?_)) <;> (try simp only [wpH, ne_eq] at wh) <;> (try (exfalso; omega)))))
    refine WP.call (minus_sp _ _ (by omega) (by omega)) ?_
    rintro _ rfl
    have e : (inSet (atD f.Code jj) (atD l.Out jj)).filter (fun x => !decide (x ∈ atD l.Out k)) = [] := by
      rw [List.filter_eq_nil_iff]
      intro y hy
      simp [hsub y hy]
    rw [e]
    refine WP.call (union_sp _ _ (by simp)) ?_
    rintro _ rfl
    (repeat' (first | (refine WP.chk (by (first | omega | (simp only [okI, List.length_append, List.length_cons, List.length_nil, length_setD, length_repD] at *; omega))) fun _ => ?_) | ((refine WP.bif (fun wh => ?_) (fun wh => ?_)) <;> (try simp only [wpH, ne_eq] at wh) <;> (try (exfalso; omega)))))
    exact ih _ ⟨by dsimp only; omega, by dsimp only; omega, rfl⟩ (by dsimp only; omega)
  · exact WP.ret rfl
theorem check17_sp (hf : WfF n i par f) {l : ALive} (h : Live f l.Out) : WP (r17_Check f l) (· = 0) := by
  have hc := hf.code
  unfold r17_Check
  refine WP.call (R := fun r => r = (0, 0, false)) ?_ ?_
  · unfold r17_First
    refine WP.call (shape17_sp (by omega) h.ann) ?_
    rintro _ rfl
    refine WP.bif (fun wh => by cases wh) fun _ => ?_
    refine WP.loop (fun k => 0 ≤ k ∧ k ≤ f.Code.length) (fun k => f.Code.length - k.toNat) ⟨by omega, by omega⟩ ?_
    rintro again k ⟨a1, a2⟩ ih
    refine WP.bif (fun wh => ?_) (fun wh => ?_) <;> (try simp only [wpH, ne_eq] at wh)
    · refine WP.call (missing17_sp hf h ⟨a1, wh⟩) ?_
      rintro _ rfl
      refine WP.bif (fun wh => by simp at wh) fun _ => ?_
      (repeat' (first | (refine WP.chk (by (first | omega | (simp only [okI, List.length_append, List.length_cons, List.length_nil, length_setD, length_repD] at *; omega))) fun _ => ?_) | ((refine WP.bif (fun wh => ?_) (fun wh => ?_)) <;> (try simp only [wpH, ne_eq] at wh) <;> (try (exfalso; omega)))))
      exact ih _ ⟨by omega, by omega⟩ (by omega)
    · exact WP.ret rfl
  rintro _ rfl
  refine WP.bif (fun wh => by cases wh) fun _ => ?_
  refine WP.call (shape17_sp (by omega) h.ann) ?_
  rintro _ rfl
  refine WP.bif (fun wh => by cases wh) fun _ => ?_
  exact WP.ret rfl
end
end Go.Proofs.Ytechhjednmnmpaa.Q
