/- Stores that are never read again: the functions, the scene, the laws. -/
import Derived.Test.YtjfkdjlmajfljaaP18
set_option linter.unusedVariables false
set_option linter.unusedSimpArgs false
namespace Go.Proofs.Ytjfkdjlmajfljaa.Q
theorem edefines_sp (x : AInstr) : WP (effect_Defines x) (· = if remB x then (x.A, true) else (0, false)) := by
  unfold effect_Defines
  refine WP.join (fun b => b = remB x) ?_ ?_
  · rintro _ rfl
    (repeat' (first | (refine WP.chk (by (first | omega | (simp only [okI, List.length_append, List.length_cons, List.length_nil, length_setD, length_repD] at *; omega))) fun _ => ?_) | ((refine WP.bif (fun wh => ?_) (fun wh => ?_)) <;> (try simp only [decide_eq_true_eq, decide_eq_false_iff_not, Bool.not_eq_true', Bool.not_eq_false', Bool.and_eq_true, Bool.or_eq_true, Bool.not_eq_true, Bool.not_eq_false, Int.not_lt, Int.not_le, ne_eq] at wh) <;> (try (exfalso; omega)))))
    all_goals (refine WP.ret ?_; simp [wh])
  · intro k hk
    (repeat' (first | (refine WP.chk (by (first | omega | (simp only [okI, List.length_append, List.length_cons, List.length_nil, length_setD, length_repD] at *; omega))) fun _ => ?_) | ((refine WP.bif (fun wh => ?_) (fun wh => ?_)) <;> (try simp only [decide_eq_true_eq, decide_eq_false_iff_not, Bool.not_eq_true', Bool.not_eq_false', Bool.and_eq_true, Bool.or_eq_true, Bool.not_eq_true, Bool.not_eq_false, Int.not_lt, Int.not_le, ne_eq] at wh) <;> (try (exfalso; omega)))))
    all_goals (refine hk _ ?_; unfold remB; simp [wh])
theorem atD_ext {α : Type} [Inhabited α] {a b : List α} (hl : a.length = b.length) (h : ∀ k, inN k a.length → atD a k = atD b k) : a = b :=
  List.ext_getElem hl fun t h1 h2 => by rw [← atD_nat h1, ← atD_nat h2]; exact h _ ⟨by omega, by omega⟩
theorem repD_at {α : Type} [Inhabited α] (n k : Int) : atD (repD n : List α) k = default := by
  unfold atD repD
  rw [List.getD_eq_getElem?_getD, List.getElem?_replicate]
  split <;> rfl
/-- Nothing reads what k writes. -/
def deadB (f : AFunc) (out : List (List Int)) (k : Int) : Bool := remB (atD f.Code k) && !decide ((atD f.Code k).A ∈ atD out k)
def deadL (f : AFunc) (out : List (List Int)) : Nat → List Int
  | 0 => []
  | n + 1 => deadL f out n ++ (if deadB f out n then [(n : Int)] else [])
theorem deadL_length (f : AFunc) (out : List (List Int)) : ∀ n, (deadL f out n).length ≤ n
  | 0 => Nat.le_refl _
  | n + 1 => by
    have := deadL_length f out n
    unfold deadL
    rw [List.length_append]
    split <;> simp <;> omega
theorem mem_deadL {f : AFunc} {out : List (List Int)} {y : Int} : ∀ {n : Nat}, y ∈ deadL f out n ↔ inN y n ∧ deadB f out y = true
  | 0 => by
    unfold deadL
    refine ⟨fun h => (by cases h), ?_⟩
    rintro ⟨⟨h1, h2⟩, _⟩
    exfalso; omega
  | n + 1 => by
    unfold deadL
    rw [List.mem_append, mem_deadL]
    constructor
    · rintro (⟨⟨h1, h2⟩, h3⟩ | h)
      · exact ⟨⟨h1, by omega⟩, h3⟩
      · split at h
        · rename_i hd
          rw [one_mem h]
          exact ⟨⟨by omega, by omega⟩, hd⟩
        · cases h
    · rintro ⟨⟨h1, h2⟩, h3⟩
      by_cases h : y = n
      · subst h; rw [if_pos h3]; exact .inr List.mem_cons_self
      · exact .inl ⟨⟨h1, by omega⟩, h3⟩
section
variable {n i par : Int} {f : AFunc}
theorem dead20_sp (hf : WfF n i par f) {l : ALive} (h : AnnS f l.Out) : WP (deadstore_Dead f l) (· = deadL f l.Out f.Code.length) := by
  have hc := hf.code
  have hsl := hf.slots
  have hl := h.len
  unfold deadstore_Dead
  refine WP.loop (fun j => ∃ m : Nat, m ≤ f.Code.length ∧ j.1 = m ∧ j.2 = deadL f l.Out m) (fun j => f.Code.length - j.1.toNat) ⟨0, by omega, rfl, rfl⟩ ?_
  rintro again ⟨k, out⟩ ⟨m, h1, h2, h3⟩ ih
  dsimp only at h2 h3 ih ⊢
  subst h2 h3
  have hdl := deadL_length f l.Out m
  refine WP.bif (fun wh => ?_) (fun wh => ?_) <;> (try simp only [decide_eq_true_eq, decide_eq_false_iff_not, Bool.not_eq_true', Bool.not_eq_false', Bool.and_eq_true, Bool.or_eq_true, Bool.not_eq_true, Bool.not_eq_false, Int.not_lt, Int.not_le, ne_eq] at wh)
  · have hkl := wh
    refine WP.chk ⟨by omega, by omega⟩ fun _ => ?_
    refine WP.call (edefines_sp _) ?_
    rintro _ rfl
    have hI := hf.at_ (k := m) ⟨by omega, wh⟩
    have hgo : deadB f l.Out m = false → WP (again ((m : Int) + 1, deadL f l.Out m)) (· = deadL f l.Out f.Code.length) := fun q => by
      refine ih _ ⟨m + 1, by omega, by simp, ?_⟩ (by dsimp only; omega)
      simp [deadL, q]
    cases hrem : remB (atD f.Code m) with
    | false =>
      refine WP.bif (fun q => by cases q) fun _ => ?_
      exact WP.chk ⟨by omega, by omega⟩ fun _ => hgo (by simp [deadB, hrem])
    | true =>
      obtain ⟨hA1, hA2⟩ := hI.dfn hrem
      refine WP.bif (fun _ => ?_) (fun q => by cases q)
      refine WP.chk ⟨by omega, by omega⟩ fun _ => ?_
      refine WP.call (R := fun b => b = decide ((atD f.Code m).A ∈ atD l.Out m)) ?_ ?_
      · unfold bitset_Has in512
        refine WP.ret ?_
        have : (0 ≤ (atD f.Code m).A ∧ (atD f.Code m).A < 512) := ⟨by omega, by omega⟩
        simp [this]
      rintro _ rfl
      refine WP.bif (fun wh => ?_) (fun wh => ?_)
      · refine WP.chk (by simp only [List.length_singleton]; omega) fun _ => ?_
        refine WP.chk ⟨by omega, by omega⟩ fun _ => ?_
        refine ih _ ⟨m + 1, by omega, by simp, ?_⟩ (by dsimp only; omega)
        simp only [deadL, deadB, hrem, wh, Bool.true_and, if_true]
      · exact WP.chk ⟨by omega, by omega⟩ fun _ => hgo (by simp only [deadB, hrem, wh, Bool.true_and])
  · refine WP.ret ?_
    rw [show m = f.Code.length by omega]
theorem rdead20_sp (hf : WfF n i par f) {l : ALive} (h : AnnS f l.Out) {k : Int} (hk : inN k f.Code.length) : WP (r20_dead f l k) (· = deadB f l.Out k) := by
  have hl := h.len
  obtain ⟨k1, k2⟩ := hk
  unfold r20_dead deadB
  refine WP.chk ⟨k1, k2⟩ fun _ => ?_
  refine WP.call (defines_sp _) ?_
  rintro _ rfl
  cases hrem : remB (atD f.Code k) with
  | false =>
    refine WP.bif (fun q => by cases q) fun _ => ?_
    exact WP.ret rfl
  | true =>
    refine WP.bif (fun _ => ?_) (fun q => by cases q)
    refine WP.chk ⟨k1, by omega⟩ fun _ => ?_
    have := (h.set k ⟨k1, k2⟩).1.length
    refine WP.call (has_sp _ _ (by omega)) ?_
    rintro _ rfl
    exact WP.ret (by simp)
theorem rDead20_sp (hf : WfF n i par f) {l : ALive} (h : AnnS f l.Out) : WP (r20_Dead f l) (· = deadL f l.Out f.Code.length) := by
  have hc := hf.code
  unfold r20_Dead
  refine WP.loop (fun j => ∃ m : Nat, m ≤ f.Code.length ∧ j.1 = m ∧ j.2 = deadL f l.Out m) (fun j => f.Code.length - j.1.toNat) ⟨0, by omega, rfl, rfl⟩ ?_
  rintro again ⟨k, out⟩ ⟨m, h1, h2, h3⟩ ih
  dsimp only at h2 h3 ih ⊢
  subst h2 h3
  have hdl := deadL_length f l.Out m
  refine WP.bif (fun wh => ?_) (fun wh => ?_) <;> (try simp only [decide_eq_true_eq, decide_eq_false_iff_not, Bool.not_eq_true', Bool.not_eq_false', Bool.and_eq_true, Bool.or_eq_true, Bool.not_eq_true, Bool.not_eq_false, Int.not_lt, Int.not_le, ne_eq] at wh)
  · have hkl := wh
    refine WP.call (rdead20_sp hf h ⟨by omega, wh⟩) ?_
    rintro _ rfl
    refine WP.bif (fun wh => ?_) (fun wh => ?_)
    · refine WP.chk (by simp only [List.length_singleton]; omega) fun _ => ?_
      refine WP.chk ⟨by omega, by omega⟩ fun _ => ?_
      refine ih _ ⟨m + 1, by omega, by simp, ?_⟩ (by dsimp only; omega)
      simp only [deadL, wh, if_true]
    · refine WP.chk ⟨by omega, by omega⟩ fun _ => ?_
      refine ih _ ⟨m + 1, by omega, by simp, ?_⟩ (by dsimp only; omega)
      simp [deadL, wh]
  · refine WP.ret ?_
    rw [show m = f.Code.length by omega]
/-- Whether instruction k stays. -/
def keepB (f : AFunc) (out : List (List Int)) (to : List Int) (k : Int) : Bool := !deadB f out k && !(decide ((atD f.Code k).Op = 17) && decide (atD to (atD f.Code k).A = atD to (atD f.Code k).B))
def keepL (f : AFunc) (out : List (List Int)) (to : List Int) (m : Nat) : List Bool := (List.range m).map fun k : Nat => keepB f out to (k : Int)
theorem keepL_at {f : AFunc} {out : List (List Int)} {to : List Int} {m : Nat} {k : Int} (hk : inN k m) : atD (keepL f out to m) k = keepB f out to k := by
  obtain ⟨h1, h2⟩ := hk
  unfold keepL atD
  rw [List.getD_eq_getElem?_getD, List.getElem?_map, List.getElem?_range (by omega)]
  simp [Int.toNat_of_nonneg h1]
theorem keep20_sp (hf : WfF n i par f) {l : ALive} (h : AnnS f l.Out) {to : List Int} (ht : to.length = f.Slots.length) : WP (deadstore_Keep f l to) (· = keepL f l.Out to f.Code.length) := by
  have hc := hf.code
  have hsl := hf.slots
  have hl := h.len
  unfold deadstore_Keep
  refine WP.chk ⟨by omega, by omega⟩ fun _ => ?_
  refine WP.call (dead20_sp hf h) ?_
  rintro _ rfl
  have hdl := deadL_length f l.Out f.Code.length
  have hmem := fun y => mem_deadL (f := f) (out := l.Out) (y := y) (n := f.Code.length)
  generalize hD : deadL f l.Out f.Code.length = D at *
  refine WP.loop (fun j => (0 ≤ j.1 ∧ j.1 ≤ f.Code.length) ∧ j.2.length = f.Code.length ∧ (∀ k, 0 ≤ k → k < j.1 → atD j.2 k = keepB f l.Out to k) ∧ ∀ k, j.1 ≤ k → k < f.Code.length → atD j.2 k = false) (fun j => f.Code.length - j.1.toNat) ⟨⟨by simp, by simp⟩, by dsimp only; rw [length_repD]; omega, fun k h1 h2 => by exfalso; dsimp only at h2; omega, fun k _ _ => repD_at _ _⟩ ?_
  rintro again1 ⟨k, kp⟩ ⟨⟨a1, a2⟩, a3, a4, a5⟩ ih1
  dsimp only at a1 a2 a3 a4 a5 ih1 ⊢
  refine WP.bif (fun wh => ?_) (fun wh => ?_) <;> (try simp only [decide_eq_true_eq, decide_eq_false_iff_not, Bool.not_eq_true', Bool.not_eq_false', Bool.and_eq_true, Bool.or_eq_true, Bool.not_eq_true, Bool.not_eq_false, Int.not_lt, Int.not_le, ne_eq] at wh)
  · have hkl := wh
    have hI := hf.at_ ⟨a1, wh⟩
    refine WP.chk ⟨a1, wh⟩ fun _ => ?_
    have hset : ∀ b, keepB f l.Out to k = b → WP (again1 (k + 1, setD kp k b)) (· = keepL f l.Out to f.Code.length) := fun b hb => by
      refine ih1 _ ⟨⟨by dsimp only; omega, by dsimp only; omega⟩, by dsimp only; rw [length_setD, a3], fun t h1 h2 => ?_, fun t h1 h2 => ?_⟩ (by dsimp only; omega)
      · dsimp only at h2 ⊢
        rw [atD_setD ⟨a1, by omega⟩ h1]
        split
        · rename_i e; rw [e, hb]
        · exact a4 t h1 (by omega)
      · dsimp only at h1 ⊢
        rw [atD_setD ⟨a1, by omega⟩ (by omega), if_neg (by omega)]
        exact a5 t (by omega) h2
    refine WP.loop (fun j => (0 ≤ j ∧ j ≤ D.length) ∧ ∀ t, 0 ≤ t → t < j → atD D t ≠ k) (fun j => D.length - j.toNat) ⟨⟨by omega, by omega⟩, fun t h1 h2 => by exfalso; omega⟩ ?_
    rintro again2 t ⟨⟨b1, b2⟩, b3⟩ ih2
    refine WP.bif (fun wh => ?_) (fun wh => ?_) <;> (try simp only [decide_eq_true_eq, decide_eq_false_iff_not, Bool.not_eq_true', Bool.not_eq_false', Bool.and_eq_true, Bool.or_eq_true, Bool.not_eq_true, Bool.not_eq_false, Int.not_lt, Int.not_le, ne_eq] at wh)
    · have htl := wh
      refine WP.chk ⟨b1, wh⟩ fun _ => ?_
      refine WP.bif (fun wh => ?_) (fun wh => ?_) <;> (try simp only [decide_eq_true_eq, decide_eq_false_iff_not, Bool.not_eq_true', Bool.not_eq_false', Bool.and_eq_true, Bool.or_eq_true, Bool.not_eq_true, Bool.not_eq_false, Int.not_lt, Int.not_le, ne_eq] at wh)
      · refine WP.chk ⟨by omega, by omega⟩ fun _ => ?_
        have hd := (hmem k).1 (wh ▸ atD_mem ⟨b1, htl⟩)
        refine ih1 _ ⟨⟨by dsimp only; omega, by dsimp only; omega⟩, a3, fun u h1 h2 => ?_, fun u h1 h2 => a5 u (by dsimp only at h1; omega) h2⟩ (by dsimp only; omega)
        dsimp only at h2 ⊢
        by_cases hu : u = k
        · rw [hu, a5 k (Int.le_refl _) hkl]
          unfold keepB
          rw [hd.2]; rfl
        · exact a4 u h1 (by omega)
      · refine WP.chk ⟨by omega, by omega⟩ fun _ => ?_
        refine ih2 _ ⟨⟨by omega, by omega⟩, fun u h1 h2 => ?_⟩ (by omega)
        by_cases hu : u = t
        · rw [hu]; exact wh
        · exact b3 u h1 (by omega)
    · have hnd : deadB f l.Out k = false := by
        cases hd : deadB f l.Out k with
        | false => rfl
        | true =>
          obtain ⟨u, e1, e2, e3⟩ := mem_atD ((hmem k).2 ⟨⟨a1, hkl⟩, hd⟩)
          exact (b3 u e1 (by omega) e3).elim
      refine WP.bif (fun wh => ?_) (fun wh => ?_) <;> (try simp only [decide_eq_true_eq, decide_eq_false_iff_not, Bool.not_eq_true', Bool.not_eq_false', Bool.and_eq_true, Bool.or_eq_true, Bool.not_eq_true, Bool.not_eq_false, Int.not_lt, Int.not_le, ne_eq] at wh)
      · refine WP.chk ⟨a1, by omega⟩ fun _ => ?_
        refine WP.chk ⟨by omega, by omega⟩ fun _ => hset _ ?_
        simp [keepB, hnd, wh]
      · obtain ⟨p1, p2⟩ := hI.dfn (by simp [remB, wh])
        obtain ⟨p3, p4⟩ := hI.use (by simp [useS, wh] : (atD f.Code k).B ∈ useS (atD f.Code k))
        refine WP.chk ⟨by omega, by omega⟩ fun _ => ?_
        refine WP.chk ⟨by omega, by omega⟩ fun _ => ?_
        refine WP.chk ⟨a1, by omega⟩ fun _ => ?_
        refine WP.chk ⟨by omega, by omega⟩ fun _ => hset _ ?_
        simp [keepB, hnd, wh]
  · refine WP.ret (atD_ext (by rw [a3]; simp [keepL]) fun t ht => ?_)
    obtain ⟨t1, t2⟩ := ht
    rw [keepL_at ⟨t1, by omega⟩]
    exact a4 t t1 (by omega)
theorem rkeep20_sp (hf : WfF n i par f) {l : ALive} (h : AnnS f l.Out) {to : List Int} (ht : to.length = f.Slots.length) : WP (r20_Keep f l to) (· = keepL f l.Out to f.Code.length) := by
  have hc := hf.code
  unfold r20_Keep
  refine WP.loop (fun j => ∃ m : Nat, m ≤ f.Code.length ∧ j.1 = m ∧ j.2 = keepL f l.Out to m) (fun j => f.Code.length - j.1.toNat) ⟨0, by omega, rfl, rfl⟩ ?_
  rintro again ⟨k, out⟩ ⟨m, h1, h2, h3⟩ ih
  dsimp only at h2 h3 ih ⊢
  subst h2 h3
  have hdl : (keepL f l.Out to m).length = m := by simp [keepL]
  have hsucc : keepL f l.Out to (m + 1) = keepL f l.Out to m ++ [keepB f l.Out to m] := by simp [keepL, List.range_succ]
  refine WP.bif (fun wh => ?_) (fun wh => ?_) <;> (try simp only [decide_eq_true_eq, decide_eq_false_iff_not, Bool.not_eq_true', Bool.not_eq_false', Bool.and_eq_true, Bool.or_eq_true, Bool.not_eq_true, Bool.not_eq_false, Int.not_lt, Int.not_le, ne_eq] at wh)
  · have hkl := wh
    have hI := hf.at_ (k := m) ⟨by omega, wh⟩
    refine WP.chk ⟨by omega, wh⟩ fun _ => ?_
    refine WP.call (rdead20_sp hf h ⟨by omega, wh⟩) ?_
    rintro _ rfl
    have hgo : ∀ b, keepB f l.Out to m = b → WP (again ((m : Int) + 1, keepL f l.Out to m ++ [b])) (· = keepL f l.Out to f.Code.length) := fun b hb => by
      refine ih _ ⟨m + 1, by omega, by simp, ?_⟩ (by dsimp only; omega)
      rw [hsucc, hb]
    refine WP.bif (fun wh => ?_) (fun wh => ?_) <;> (try simp only [decide_eq_true_eq, decide_eq_false_iff_not, Bool.not_eq_true', Bool.not_eq_false', Bool.and_eq_true, Bool.or_eq_true, Bool.not_eq_true, Bool.not_eq_false, Int.not_lt, Int.not_le, ne_eq] at wh)
    · have hnd := wh
      refine WP.bif (fun wh => ?_) (fun wh => ?_) <;> (try simp only [decide_eq_true_eq, decide_eq_false_iff_not, Bool.not_eq_true', Bool.not_eq_false', Bool.and_eq_true, Bool.or_eq_true, Bool.not_eq_true, Bool.not_eq_false, Int.not_lt, Int.not_le, ne_eq] at wh)
      · obtain ⟨p1, p2⟩ := hI.dfn (by simp [remB, wh])
        obtain ⟨p3, p4⟩ := hI.use (by simp [useS, wh] : (atD f.Code m).B ∈ useS (atD f.Code m))
        refine WP.chk ⟨by omega, by omega⟩ fun _ => ?_
        refine WP.chk ⟨by omega, by omega⟩ fun _ => ?_
        refine WP.chk (by simp only [List.length_singleton]; omega) fun _ => ?_
        refine WP.chk ⟨by omega, by omega⟩ fun _ => hgo _ ?_
        simp [keepB, hnd, wh]
      · refine WP.chk (by simp only [List.length_singleton]; omega) fun _ => ?_
        refine WP.chk ⟨by omega, by omega⟩ fun _ => hgo _ ?_
        simp [keepB, hnd, wh]
    · refine WP.chk (by simp only [List.length_singleton]; omega) fun _ => ?_
      refine WP.chk ⟨by omega, by omega⟩ fun _ => hgo _ ?_
      simp [keepB, wh]
  · refine WP.ret ?_
    rw [show m = f.Code.length by omega]
end
def countF (l : List Bool) : Int := ((l.filter fun b => !b).length : Int)
theorem count20_sp (l : List Bool) (hl : l.length ≤ 1000000) : WP (deadstore_Count l) (· = countF l) := by
  unfold deadstore_Count
  refine WP.loop (fun j => (0 ≤ j.2 ∧ j.2 ≤ l.length) ∧ j.1 = countF (l.take j.2.toNat)) (fun j => l.length - j.2.toNat) ⟨⟨by simp, by simp⟩, by simp [countF]⟩ ?_
  rintro again ⟨n, k⟩ ⟨⟨a1, a2⟩, a3⟩ ih
  dsimp only at a1 a2 a3 ih ⊢
  have hb : countF (l.take k.toNat) ≤ l.length := by
    unfold countF
    have h1 := List.length_filter_le (fun b => !b) (l.take k.toNat)
    have h2 : (l.take k.toNat).length ≤ l.length := by simp; omega
    omega
  have hb0 : 0 ≤ countF (l.take k.toNat) := by unfold countF; omega
  refine WP.bif (fun wh => ?_) (fun wh => ?_) <;> (try simp only [decide_eq_true_eq, decide_eq_false_iff_not, Bool.not_eq_true', Bool.not_eq_false', Bool.and_eq_true, Bool.or_eq_true, Bool.not_eq_true, Bool.not_eq_false, Int.not_lt, Int.not_le, ne_eq] at wh)
  · have hkl := wh
    have htk := take_atD (l := l) (k := k) ⟨a1, wh⟩
    refine WP.chk ⟨by omega, by omega⟩ fun _ => ?_
    refine WP.bif (fun wh => ?_) (fun wh => ?_) <;> (try simp only [decide_eq_true_eq, decide_eq_false_iff_not, Bool.not_eq_true', Bool.not_eq_false', Bool.and_eq_true, Bool.or_eq_true, Bool.not_eq_true, Bool.not_eq_false, Int.not_lt, Int.not_le, ne_eq] at wh)
    · refine WP.chk ⟨by omega, by omega⟩ fun _ => ?_
      refine WP.chk ⟨by omega, by omega⟩ fun _ => ?_
      refine ih _ ⟨⟨by dsimp only; omega, by dsimp only; omega⟩, ?_⟩ (by dsimp only; omega)
      dsimp only
      rw [htk, a3]
      unfold countF
      rw [List.filter_append]
      simp [wh]
    · refine WP.chk ⟨by omega, by omega⟩ fun _ => ?_
      refine ih _ ⟨⟨by dsimp only; omega, by dsimp only; omega⟩, ?_⟩ (by dsimp only; omega)
      dsimp only
      rw [htk, a3]
      unfold countF
      rw [List.filter_append]
      simp [wh]
  · refine WP.ret ?_
    rw [a3, take_all (by omega)]
theorem rcount20_sp (l : List Bool) (hl : l.length ≤ 1000000) : WP (r20_Count l) (· = countF l) := by
  have h := count20_sp l hl
  unfold deadstore_Count at h
  unfold r20_Count
  exact h
theorem awake20_sp : WP law20_awake (· = true) := by
  unfold law20_awake
  refine WP.call (count20_sp _ (by simp)) ?_
  rintro _ rfl
  exact WP.ret (by decide)
theorem scene20_sp (cs : List Int) (h : isU8 cs) : WP (law20_scene cs) fun r => (∃ n i par, WfF n i par r.1) ∧ Live r.1 r.2.1.Out ∧ r.2.2.1.length = r.1.Slots.length := by
  unfold law20_scene
  refine WP.call (new_sp cs 250 h (by omega)) fun x1 h1 => ?_
  refine WP.call (program_sp x1 3 16 h1 (by omega) (by omega)) fun x2 ⟨h2, h3, h4⟩ => ?_
  have h5 := h3.len
  refine WP.call (next_sp _ _ h2 (by omega)) fun x3 ⟨h6, h7, h8, _⟩ => ?_
  have h9 := h8 (by omega)
  have hf := h3.func _ h7 h9
  refine WP.chk ⟨h7, h9⟩ fun _ => ?_
  generalize atD x2.1.Funcs x3.1 = f at *
  have hsl := hf.slots
  refine WP.call (lives_sp _ h6 hf) fun x4 ⟨b1, b2⟩ => ?_
  refine WP.call (Graph18_sp hf b2) fun x5 ⟨b3, b4⟩ => ?_
  refine WP.join (fun j => f.Slots.length ≤ j.1.length ∧ ∀ s, inN s j.1.length → (atD j.1 s).length ≤ 1000000) ?_ ?_
  · rintro ⟨g, c⟩ ⟨d1, d2⟩
    refine WP.call (classes19_sp hf d1 d2) fun x6 ⟨d3, d4⟩ => ?_
    exact WP.ret ⟨⟨_, _, _, hf⟩, b2, d3⟩
  · intro k hk
    refine WP.call (next_sp _ 4 b1 (by omega)) fun x7 _ => ?_
    refine WP.bif (fun wh => ?_) (fun wh => ?_)
    · refine WP.chk ⟨by omega, by omega⟩ fun _ => ?_
      refine hk _ ⟨by dsimp only; rw [length_repD]; omega, fun s _ => ?_⟩
      dsimp only
      rw [repD_at]
      exact Nat.zero_le _
    · refine hk _ ⟨by rw [b4.len]; omega, fun s hs => ?_⟩
      dsimp only at hs ⊢
      have := (b4.set s (by rw [← b4.len]; exact hs)).1.length
      omega
theorem pl_DeadstoreShrinks (cs : List Int) (h : isU8 cs) : WP (law20_DeadstoreShrinks cs) (· = true) := by
  unfold law20_DeadstoreShrinks
  refine WP.call awake20_sp ?_
  rintro _ rfl
  refine WP.bif (fun wh => by cases wh) fun _ => ?_
  refine WP.call (scene20_sp cs h) fun x2 ⟨⟨n, i, par, hf⟩, h2, h3⟩ => ?_
  refine WP.call (solve_sp hf) fun x3 h4 => ?_
  generalize x2.1 = f at *
  have hc := hf.code
  have hsl := hf.slots
  refine WP.loop (fun j => (0 ≤ j.1 ∧ j.1 ≤ f.Slots.length) ∧ (j.2.length : Int) = j.1 ∧ ∀ s, inN s j.2.length → atD j.2 s = s) (fun j => f.Slots.length - j.1.toNat) ⟨⟨by simp, by simp⟩, by simp, fun s hs => by have := hs.1; have := hs.2; simp at this; omega⟩ ?_
  rintro again1 ⟨s, to⟩ ⟨⟨a1, a2⟩, a3, a4⟩ ih1
  dsimp only at a1 a2 a3 a4 ih1 ⊢
  refine WP.bif (fun wh => ?_) (fun wh => ?_) <;> (try simp only [decide_eq_true_eq, decide_eq_false_iff_not, Bool.not_eq_true', Bool.not_eq_false', Bool.and_eq_true, Bool.or_eq_true, Bool.not_eq_true, Bool.not_eq_false, Int.not_lt, Int.not_le, ne_eq] at wh)
  · have hlt := wh
    refine WP.chk (by simp only [List.length_singleton]; omega) fun _ => ?_
    refine WP.chk ⟨by omega, by omega⟩ fun _ => ?_
    refine ih1 _ ⟨⟨by dsimp only; omega, by dsimp only; omega⟩, by simp only [List.length_append, List.length_singleton]; omega, fun t ht => ?_⟩ (by dsimp only; omega)
    dsimp only at ht ⊢
    obtain ⟨h1, h2⟩ := ht
    simp only [List.length_append, List.length_singleton] at h2
    by_cases h : t = to.length
    · rw [atD_last h]; omega
    · rw [atD_append_left (by omega)]; exact a4 t ⟨h1, by omega⟩
  · have hmemto : ∀ y, y ∈ to ↔ inN y f.Slots.length := fun y => by
      constructor
      · intro hy
        obtain ⟨t, e1, e2, rfl⟩ := mem_atD hy
        rw [a4 t ⟨e1, e2⟩]
        exact ⟨e1, by omega⟩
      · rintro ⟨e1, e2⟩
        have e3 := atD_mem (l := to) (i := y) ⟨e1, by omega⟩
        rw [a4 y ⟨e1, by omega⟩] at e3
        exact e3
    have hIS : IsS to := by
      refine ascS_iff.1 ?_
      unfold ascS
      rw [List.all_eq_true]
      intro j hj
      have hj := List.mem_range.1 hj
      have e : ∀ t : Nat, t < to.length → to.getD t 0 = t := fun t ht => by
        have := a4 (t : Int) ⟨by omega, by omega⟩
        rw [atD_nat ht] at this
        rw [List.getD_eq_getElem?_getD, List.getElem?_eq_getElem ht]
        exact this
      rw [e j hj]
      by_cases hj0 : j = 0
      · subst hj0; rfl
      · rw [e (j - 1) (by omega)]
        simp [in512]
        omega
    refine WP.chk ⟨by omega, by omega⟩ fun _ => ?_
    refine WP.loop (fun j => j.1 = to ∧ (0 ≤ j.2.1 ∧ j.2.1 ≤ f.Code.length) ∧ j.2.2.length = f.Code.length ∧ ∀ k, 0 ≤ k → k < j.2.1 → atD j.2.2 k = to) (fun j => f.Code.length - j.2.1.toNat) ⟨rfl, ⟨by simp, by simp⟩, by dsimp only; rw [length_repD]; omega, fun k q1 q2 => by exfalso; dsimp only at q2; omega⟩ ?_
    rintro again2 ⟨_, k, own⟩ ⟨rfl, ⟨b1, b2⟩, b3, b4⟩ ih2
    dsimp only at b1 b2 b3 b4 a1 a2 a3 a4 ih1 ih2 hmemto hIS ⊢
    refine WP.bif (fun wh => ?_) (fun wh => ?_) <;> (try simp only [decide_eq_true_eq, decide_eq_false_iff_not, Bool.not_eq_true', Bool.not_eq_false', Bool.and_eq_true, Bool.or_eq_true, Bool.not_eq_true, Bool.not_eq_false, Int.not_lt, Int.not_le, ne_eq] at wh)
    · have hkl := wh
      refine WP.chk ⟨by omega, by omega⟩ fun _ => ?_
      refine WP.chk ⟨by omega, by omega⟩ fun _ => ?_
      refine ih2 _ ⟨rfl, ⟨by dsimp only; omega, by dsimp only; omega⟩, by dsimp only; rw [length_setD, b3], fun t q1 q2 => ?_⟩ (by dsimp only; omega)
      dsimp only at q2 ⊢
      rw [atD_setD ⟨b1, by omega⟩ q1]
      split
      · rfl
      · exact b4 t q1 (by omega)
    · refine WP.call (dead20_sp hf h2.ann) ?_
      rintro _ rfl
      refine WP.call (dead20_sp hf h4.live.ann) ?_
      rintro _ rfl
      have hd1 := deadL_length f x2.2.1.Out f.Code.length
      have hd2 := deadL_length f x3.Out f.Code.length
      refine WP.call (within_sp _ _ (by omega) (by omega)) ?_
      rintro _ rfl
      refine WP.bif (fun wh => ?_) (fun wh => ?_) <;> (try simp only [decide_eq_true_eq, decide_eq_false_iff_not, Bool.not_eq_true', Bool.not_eq_false', Bool.and_eq_true, Bool.or_eq_true, Bool.not_eq_true, Bool.not_eq_false, Int.not_lt, Int.not_le, ne_eq] at wh)
      · have hA : AnnS f own := ⟨b3, fun t ht => by
          rw [b4 t ht.1 (by have := ht.2; omega)]
          exact ⟨hIS, fun y hy => ((hmemto y).1 hy).2⟩⟩
        refine WP.call (dead20_sp (l := ⟨own⟩) hf hA) ?_
        rintro _ rfl
        refine WP.ret ?_
        have : deadL f own f.Code.length = [] := by
          rw [List.eq_nil_iff_forall_not_mem]
          intro y hy
          obtain ⟨hy1, hy2⟩ := mem_deadL.1 hy
          unfold deadB at hy2
          rw [Bool.and_eq_true] at hy2
          have hdf := (hf.at_ hy1).dfn hy2.1
          rw [b4 y hy1.1 (by have := hy1.2; omega)] at hy2
          have := (hmemto _).2 hdf
          simp [this] at hy2
        simp [this]
      · exfalso
        refine wh fun y hy => ?_
        obtain ⟨hy1, hy2⟩ := mem_deadL.1 hy
        refine mem_deadL.2 ⟨hy1, ?_⟩
        unfold deadB at hy2 ⊢
        rw [Bool.and_eq_true, Bool.not_eq_true', decide_eq_false_iff_not] at hy2 ⊢
        exact ⟨hy2.1, fun q => hy2.2 (h4.least _ h2 _ hy1 _ q)⟩
theorem pl_DeadstoreNeverReadAgain (cs : List Int) (h : isU8 cs) : WP (law20_DeadstoreNeverReadAgain cs) (· = true) := by
  unfold law20_DeadstoreNeverReadAgain
  refine WP.call awake20_sp ?_
  rintro _ rfl
  refine WP.bif (fun wh => by cases wh) fun _ => ?_
  refine WP.call (scene20_sp cs h) fun x2 ⟨⟨n, i, par, hf⟩, h2, h3⟩ => ?_
  refine WP.call (dead20_sp hf h2.ann) ?_
  rintro _ rfl
  refine WP.call (solve_sp hf) fun x4 h4 => ?_
  generalize x2.1 = f at *
  have hc := hf.code
  have hxl := h4.live.ann.len
  have hdl := deadL_length f x2.2.1.Out f.Code.length
  have hmem := fun y => mem_deadL (f := f) (out := x2.2.1.Out) (y := y) (n := f.Code.length)
  generalize deadL f x2.2.1.Out f.Code.length = D at *
  refine WP.loop (fun j => 0 ≤ j ∧ j ≤ D.length) (fun j => D.length - j.toNat) ⟨by omega, by omega⟩ ?_
  rintro again t ⟨a1, a2⟩ ih
  refine WP.bif (fun wh => ?_) (fun wh => ?_) <;> (try simp only [decide_eq_true_eq, decide_eq_false_iff_not, Bool.not_eq_true', Bool.not_eq_false', Bool.and_eq_true, Bool.or_eq_true, Bool.not_eq_true, Bool.not_eq_false, Int.not_lt, Int.not_le, ne_eq] at wh)
  · have htl := wh
    obtain ⟨⟨d1, d2⟩, d3⟩ := (hmem _).1 (atD_mem ⟨a1, wh⟩)
    unfold deadB at d3
    rw [Bool.and_eq_true, Bool.not_eq_true', decide_eq_false_iff_not] at d3
    generalize hy : atD D t = y at *
    refine WP.chk ⟨a1, wh⟩ fun _ => ?_
    refine WP.bif (fun wh => ?_) (fun wh => ?_) <;> (try simp only [decide_eq_true_eq, decide_eq_false_iff_not, Bool.not_eq_true', Bool.not_eq_false', Bool.and_eq_true, Bool.or_eq_true, Bool.not_eq_true, Bool.not_eq_false, Int.not_lt, Int.not_le, ne_eq] at wh)
    · exfalso; omega
    refine WP.chk ⟨a1, htl⟩ fun _ => ?_
    refine WP.bif (fun wh => ?_) (fun wh => ?_) <;> (try simp only [decide_eq_true_eq, decide_eq_false_iff_not, Bool.not_eq_true', Bool.not_eq_false', Bool.and_eq_true, Bool.or_eq_true, Bool.not_eq_true, Bool.not_eq_false, Int.not_lt, Int.not_le, ne_eq] at wh)
    · exfalso; omega
    refine WP.chk ⟨a1, htl⟩ fun _ => ?_
    refine WP.chk ⟨d1, d2⟩ fun _ => ?_
    refine WP.call (defines_sp _) ?_
    rintro _ rfl
    rw [if_pos d3.1]
    refine WP.bif (fun wh => by cases wh) fun _ => ?_
    refine WP.chk ⟨a1, htl⟩ fun _ => ?_
    refine WP.chk ⟨d1, by omega⟩ fun _ => ?_
    have hSl := (h4.live.ann.set y ⟨d1, d2⟩).1.length
    refine WP.call (has_sp _ _ (by omega)) ?_
    rintro _ rfl
    refine WP.bif (fun wh => ?_) (fun wh => ?_) <;> (try simp only [decide_eq_true_eq, decide_eq_false_iff_not, Bool.not_eq_true', Bool.not_eq_false', Bool.and_eq_true, Bool.or_eq_true, Bool.not_eq_true, Bool.not_eq_false, Int.not_lt, Int.not_le, ne_eq] at wh)
    · exact (d3.2 (h4.least _ h2 _ ⟨d1, d2⟩ _ wh)).elim
    · refine WP.chk ⟨by omega, by omega⟩ fun _ => ?_
      exact ih _ ⟨by omega, by omega⟩ (by omega)
  · exact WP.ret rfl
theorem pl_DeadstoreKeep (cs : List Int) (raw : List Bool) (h : isU8 cs) : WP (law20_DeadstoreKeep cs raw) (· = true) := by
  unfold law20_DeadstoreKeep
  refine WP.call awake20_sp ?_
  rintro _ rfl
  refine WP.bif (fun wh => by cases wh) fun _ => ?_
  refine WP.bif (fun wh => ?_) (fun wh => ?_)
  · exact WP.ret wh
  simp only [decide_eq_false_iff_not, Int.not_lt] at wh
  have hraw := wh
  refine WP.call (scene20_sp cs h) fun x2 ⟨⟨n, i, par, hf⟩, h2, h3⟩ => ?_
  refine WP.call (keep20_sp hf h2.ann h3) ?_
  rintro _ rfl
  refine WP.call (rkeep20_sp hf h2.ann h3) ?_
  rintro _ rfl
  have hc := hf.code
  refine WP.bif (fun wh => by simp at wh) fun _ => ?_
  have hkl : (keepL x2.1 x2.2.1.Out x2.2.2.1 x2.1.Code.length).length = x2.1.Code.length := by simp [keepL]
  have hdl := deadL_length x2.1 x2.2.1.Out x2.1.Code.length
  refine WP.loop (fun j => 0 ≤ j ∧ j ≤ x2.1.Code.length) (fun j => x2.1.Code.length - j.toNat) ⟨by omega, by omega⟩ ?_
  rintro again t ⟨a1, a2⟩ ih
  refine WP.bif (fun wh => ?_) (fun wh => ?_) <;> (try simp only [decide_eq_true_eq, decide_eq_false_iff_not, Bool.not_eq_true', Bool.not_eq_false', Bool.and_eq_true, Bool.or_eq_true, Bool.not_eq_true, Bool.not_eq_false, Int.not_lt, Int.not_le, ne_eq] at wh)
  · have htl := wh
    refine WP.chk ⟨by omega, by omega⟩ fun _ => ?_
    refine WP.chk ⟨by omega, by omega⟩ fun _ => ?_
    refine WP.bif (fun wh => by simp at wh) fun _ => ?_
    refine WP.chk ⟨by omega, by omega⟩ fun _ => ?_
    exact ih _ ⟨by omega, by omega⟩ (by omega)
  · refine WP.call (dead20_sp hf h2.ann) ?_
    rintro _ rfl
    refine WP.call (rDead20_sp hf h2.ann) ?_
    rintro _ rfl
    refine WP.call (same_sp _ _ (by omega)) ?_
    rintro _ rfl
    refine WP.bif (fun _ => ?_) (fun wh => by simp at wh)
    refine WP.call (count20_sp _ (by omega)) ?_
    rintro _ rfl
    refine WP.call (rcount20_sp _ (by omega)) ?_
    rintro _ rfl
    refine WP.bif (fun _ => ?_) (fun wh => by simp at wh)
    refine WP.call (count20_sp _ (by omega)) ?_
    rintro _ rfl
    refine WP.call (rcount20_sp _ (by omega)) ?_
    rintro _ rfl
    exact WP.ret (by simp)
theorem pl_DeadstoreLeavesOnlyStoresOut (cs : List Int) (h : isU8 cs) : WP (law20_DeadstoreLeavesOnlyStoresOut cs) (· = true) := by
  unfold law20_DeadstoreLeavesOnlyStoresOut
  refine WP.call awake20_sp ?_
  rintro _ rfl
  refine WP.bif (fun wh => by cases wh) fun _ => ?_
  refine WP.call (scene20_sp cs h) fun x2 ⟨⟨n, i, par, hf⟩, h2, h3⟩ => ?_
  refine WP.call (keep20_sp hf h2.ann h3) ?_
  rintro _ rfl
  have hc := hf.code
  have hlast := hf.last
  have hkl : (keepL x2.1 x2.2.1.Out x2.2.2.1 x2.1.Code.length).length = x2.1.Code.length := by simp [keepL]
  have hat := fun k hk => keepL_at (f := x2.1) (out := x2.2.1.Out) (to := x2.2.2.1) (m := x2.1.Code.length) (k := k) hk
  generalize keepL x2.1 x2.2.1.Out x2.2.2.1 x2.1.Code.length = K at *
  refine WP.bif (fun wh => ?_) fun _ => ?_
  · exfalso
    rw [Bool.not_eq_true', decide_eq_false_iff_not] at wh
    omega
  refine WP.chk ⟨by omega, by omega⟩ fun _ => ?_
  refine WP.chk ⟨by omega, by omega⟩ fun _ => ?_
  have e : (K.length : Int) = x2.1.Code.length := by omega
  rw [e]
  rw [hat _ ⟨by omega, by omega⟩]
  refine WP.bif (fun wh => ?_) fun _ => ?_
  · exfalso
    unfold keepB deadB remB at wh
    rcases hlast with q | q <;> rw [q] at wh <;> simp at wh
  refine WP.loop (fun j => 0 ≤ j ∧ j ≤ x2.1.Code.length) (fun j => x2.1.Code.length - j.toNat) ⟨by omega, by omega⟩ ?_
  rintro again t ⟨a1, a2⟩ ih
  refine WP.bif (fun wh => ?_) (fun wh => ?_) <;> (try simp only [decide_eq_true_eq, decide_eq_false_iff_not, Bool.not_eq_true', Bool.not_eq_false', Bool.and_eq_true, Bool.or_eq_true, Bool.not_eq_true, Bool.not_eq_false, Int.not_lt, Int.not_le, ne_eq] at wh)
  · have htl := wh
    refine WP.chk ⟨by omega, by omega⟩ fun _ => ?_
    rw [hat t ⟨a1, htl⟩]
    refine WP.bif (fun wh => ?_) (fun wh => ?_) <;> (try simp only [decide_eq_true_eq, decide_eq_false_iff_not, Bool.not_eq_true', Bool.not_eq_false', Bool.and_eq_true, Bool.or_eq_true, Bool.not_eq_true, Bool.not_eq_false, Int.not_lt, Int.not_le, ne_eq] at wh)
    · refine WP.chk ⟨by omega, by omega⟩ fun _ => ?_
      refine WP.call (removable_sp _) ?_
      rintro _ rfl
      have hrem : remB (atD x2.1.Code t) = true := by
        cases hr : remB (atD x2.1.Code t) with
        | true => rfl
        | false =>
          exfalso
          unfold keepB deadB at wh
          rw [hr] at wh
          unfold remB at hr
          simp at wh hr
          exact hr.2 wh.1
      rw [hrem]
      refine WP.bif (fun wh => by cases wh) fun _ => ?_
      refine WP.chk ⟨by omega, by omega⟩ fun _ => ?_
      exact ih _ ⟨by omega, by omega⟩ (by omega)
    · refine WP.chk ⟨by omega, by omega⟩ fun _ => ?_
      exact ih _ ⟨by omega, by omega⟩ (by omega)
  · exact WP.ret rfl
end Go.Proofs.Ytjfkdjlmajfljaa.Q
