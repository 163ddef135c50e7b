/- Applying a renaming: exactly what comes out. -/
import Derived.Test.YtlhaoijkffhafaaGreatDoorP31b
set_option linter.unusedVariables false
set_option linter.unusedSimpArgs false
namespace Go.Proofs.YtlhaoijkffhafaaGreatDoor.Q
section
variable {n i par : Int} {f : AFunc}
theorem check21X_sp (hf : WfF n i par f) (r : ARename) : WP (r21_Check f r) fun e => (ValidP f r.To ∧ KeepP f r.Keep → e = 0) ∧ (¬ (ValidP f r.To ∧ KeepP f r.Keep) → e = 12) := by
  have hc := hf.code
  have hsl := hf.slots
  unfold r21_Check
  refine WP.call (rvalid_sp f _ (by omega)) fun b hb => ?_
  refine WP.bif (fun wh => ?_) (fun wh => ?_)
  · exact WP.ret ⟨fun q => (by rw [hb.2 q.1] at wh; cases wh), fun _ => rfl⟩
  have hv := hb.1 (by simpa using wh)
  refine WP.bif (fun wh => ?_) (fun wh => ?_)
  · rw [Bool.not_eq_true', decide_eq_false_iff_not] at wh
    exact WP.ret ⟨fun q => (wh (by rw [q.2.1])).elim, fun _ => rfl⟩
  rw [Bool.not_eq_false', decide_eq_true_eq] at wh
  have hl := wh
  refine WP.loop (fun j => (0 ≤ j ∧ j ≤ f.Code.length) ∧ ∀ k, 0 ≤ k → k < j → atD r.Keep k = false → remB (atD f.Code k) = true) (fun j => f.Code.length - j.toNat) ⟨⟨by omega, by omega⟩, fun k h1 h2 => by exfalso; omega⟩ ?_
  rintro again k ⟨⟨a1, a2⟩, a3⟩ ih
  refine WP.bif (fun wh => ?_) (fun wh => ?_) <;> (try simp only [decide_eq_true_eq, decide_eq_false_iff_not, Bool.not_eq_true', Bool.not_eq_false', Bool.and_eq_true, Bool.or_eq_true, Bool.not_eq_true, Bool.not_eq_false, Int.not_lt, Int.not_le, ne_eq] at wh)
  · have hkl := wh
    have hgo : (atD r.Keep k = false → remB (atD f.Code k) = true) → WP (again (k + 1)) fun e => (ValidP f r.To ∧ KeepP f r.Keep → e = 0) ∧ (¬ (ValidP f r.To ∧ KeepP f r.Keep) → e = 12) := fun hq => by
      refine ih _ ⟨⟨by omega, by omega⟩, fun t h1 h2 => ?_⟩ (by omega)
      by_cases ht : t = k
      · rw [ht]; exact hq
      · exact a3 t h1 (by omega)
    refine WP.chk ⟨a1, by omega⟩ fun _ => ?_
    refine WP.bif (fun wh => ?_) (fun wh => ?_) <;> (try simp only [decide_eq_true_eq, decide_eq_false_iff_not, Bool.not_eq_true', Bool.not_eq_false', Bool.and_eq_true, Bool.or_eq_true, Bool.not_eq_true, Bool.not_eq_false, Int.not_lt, Int.not_le, ne_eq] at wh)
    · have hkf := wh
      refine WP.chk ⟨a1, hkl⟩ fun _ => ?_
      refine WP.call (removable_sp _) ?_
      rintro _ rfl
      refine WP.bif (fun wh => ?_) (fun wh => ?_) <;> (try simp only [decide_eq_true_eq, decide_eq_false_iff_not, Bool.not_eq_true', Bool.not_eq_false', Bool.and_eq_true, Bool.or_eq_true, Bool.not_eq_true, Bool.not_eq_false, Int.not_lt, Int.not_le, ne_eq] at wh)
      · exact WP.ret ⟨fun q => (by rw [q.2.2 k ⟨a1, hkl⟩ hkf] at wh; cases wh), fun _ => rfl⟩
      · exact WP.chk ⟨by omega, by omega⟩ fun _ => hgo fun _ => wh
    · exact WP.chk ⟨by omega, by omega⟩ fun _ => hgo fun q => (by rw [wh] at q; cases q)
  · exact WP.ret ⟨fun _ => rfl, fun q => (q ⟨hv, by omega, fun k hk => a3 k hk.1 (by have := hk.2; omega)⟩).elim⟩
/-- What an instruction writes. -/
def defS (x : AInstr) : List Int := if remB x then [x.A] else []
/-- What the kept ones among the first m instructions use and define. -/
def rawU (f : AFunc) (r : ARename) : Nat → List Int
  | 0 => []
  | m + 1 => rawU f r m ++ (if atD r.Keep m = true then useS (renI (atD f.Code m) r.To) ++ defS (renI (atD f.Code m) r.To) else [])
theorem mem_rawU {r : ARename} {y : Int} : ∀ {m : Nat}, y ∈ rawU f r m ↔ ∃ k, inN k m ∧ atD r.Keep k = true ∧ (y ∈ useS (renI (atD f.Code k) r.To) ∨ y ∈ defS (renI (atD f.Code k) r.To))
  | 0 => by
    unfold rawU
    refine ⟨fun h => (by cases h), ?_⟩
    rintro ⟨k, ⟨h1, h2⟩, _⟩
    exfalso; omega
  | m + 1 => by
    unfold rawU
    rw [List.mem_append, mem_rawU]
    constructor
    · rintro (⟨k, ⟨h1, h2⟩, h3⟩ | h)
      · exact ⟨k, ⟨h1, by omega⟩, h3⟩
      · split at h
        · rename_i hk
          exact ⟨m, ⟨by omega, by omega⟩, hk, List.mem_append.1 h⟩
        · cases h
    · rintro ⟨k, ⟨h1, h2⟩, h3, h4⟩
      by_cases hk : k = m
      · subst hk
        exact .inr (by rw [if_pos h3]; exact List.mem_append.2 h4)
      · exact .inl ⟨k, ⟨h1, by omega⟩, h3, h4⟩
@[irreducible] def usedS (f : AFunc) (r : ARename) : List Int := setOf (rawU f r (min f.Code.length r.Keep.length))
theorem IsS.usedS (f : AFunc) (r : ARename) : IsS (Go.Proofs.YtlhaoijkffhafaaGreatDoor.Q.usedS f r) := by unfold Go.Proofs.YtlhaoijkffhafaaGreatDoor.Q.usedS; exact IsS.setOf _
theorem usedS_U (hf : WfF n i par f) {r : ARename} (hv : ValidP f r.To) (hk : KeepP f r.Keep) : UsedP f r f.Code.length (usedS f r) := by
  have hsl := hf.slots
  have hkl := hk.1
  have hto := hv.1
  have hmin : min f.Code.length r.Keep.length = f.Code.length := by omega
  have hur : ∀ k, inN k f.Code.length → ∀ y, y ∈ useS (renI (atD f.Code k) r.To) → inN y f.Slots.length := fun k hk y hy => by
    have hI := hf.at_ hk
    rw [renI_use] at hy
    split at hy
    · rename_i h
      rw [one_mem hy]
      have hB := hI.use (y := (atD f.Code k).B) (by unfold useS; rw [if_pos h]; exact List.mem_cons_self)
      rw [renN_in (by rw [hto]; exact hB)]
      have := (hv.2 _ (by rw [hto]; exact hB)).1
      rw [hto] at this; exact this
    · cases hy
  have hdr : ∀ k, inN k f.Code.length → remB (atD f.Code k) = true → inN (renI (atD f.Code k) r.To).A f.Slots.length := fun k hk h => by
    have hI := hf.at_ hk
    have hA := hI.dfn h
    rw [renI_A _ _ h, renN_in (by rw [hto]; exact hA)]
    have := (hv.2 _ (by rw [hto]; exact hA)).1
    rw [hto] at this; exact this
  unfold usedS
  rw [hmin]
  refine ⟨IsS.setOf _, fun y hy => ?_, fun k h1 h2 h3 y hy => ?_, fun k h1 h2 h3 h4 => ?_⟩
  · obtain ⟨k, hk, hk2, h⟩ := mem_rawU.1 (mem_setOf.1 hy).1
    rcases h with h | h
    · exact hur k hk y h
    · unfold defS at h
      split at h
      · rename_i hr
        rw [renI_rem] at hr
        rw [one_mem h]
        exact hdr k hk hr
      · cases h
  · obtain ⟨q1, q2⟩ := hur k ⟨h1, h2⟩ y hy
    exact mem_setOf.2 ⟨mem_rawU.2 ⟨k, ⟨h1, h2⟩, h3, .inl hy⟩, q1, by omega⟩
  · obtain ⟨q1, q2⟩ := hdr k ⟨h1, h2⟩ h4
    exact mem_setOf.2 ⟨mem_rawU.2 ⟨k, ⟨h1, h2⟩, h3, .inr (by unfold defS; rw [if_pos (by rw [renI_rem]; exact h4)]; exact List.mem_cons_self)⟩, q1, by omega⟩
/-- The places. -/
def plL (keep : List Bool) : List Int := (List.range keep.length).map fun k : Nat => cntK keep k
theorem plL_len (keep : List Bool) : (plL keep).length = keep.length := by simp [plL]
theorem plL_at {keep : List Bool} {k : Int} (h : inN k keep.length) : atD (plL keep) k = cntK keep k.toNat := by
  obtain ⟨h1, h2⟩ := h
  have h3 : k.toNat < (plL keep).length := by rw [plL_len]; omega
  have h4 := atD_nat h3
  rw [Int.toNat_of_nonneg h1] at h4
  rw [h4]
  simp [plL]
/-- The slot that takes the place of a class. -/
def slotOf (f : AFunc) (to : List Int) (s : Int) : ASlot := ⟨(atD f.Slots s).Size, (membS to s).foldl (fun a t => max a (atD f.Slots t).Align) (atD f.Slots s).Align⟩
/-- The kept ones among the first m instructions, with other slots and targets. -/
def codeOf (f : AFunc) (keep : List Bool) (nums pl : List Int) : Nat → List AInstr
  | 0 => []
  | m + 1 => codeOf f keep nums pl m ++ (if atD keep m = true then [retI (renI (atD f.Code m) nums) pl] else [])
theorem codeOf_length (keep : List Bool) (nums pl : List Int) : ∀ m, ((codeOf f keep nums pl m).length : Int) = cntK keep m
  | 0 => rfl
  | m + 1 => by
    have := codeOf_length keep nums pl m
    unfold codeOf cntK
    rw [List.length_append]
    split <;> simp <;> omega
def appF (f : AFunc) (r : ARename) (nums : List Int) : AFunc := ⟨f.Params, (usedS f r).map (slotOf f r.To), codeOf f r.Keep nums (plL r.Keep) f.Code.length⟩
def AppP (f : AFunc) (r : ARename) (x : AFunc) : Prop := ∃ nums, NumP r.To (usedS f r) nums ∧ x = appF f r nums
theorem IsS.inj {u : List Int} (h : IsS u) {a b : Int} (ha : inN a u.length) (hb : inN b u.length) (e : atD u a = atD u b) : a = b := by
  have h1 : a.toNat < u.length := by have := ha.2; have := ha.1; omega
  have h2 : b.toNat < u.length := by have := hb.2; have := hb.1; omega
  have e1 := atD_nat h1
  have e2 := atD_nat h2
  rw [Int.toNat_of_nonneg ha.1] at e1
  rw [Int.toNat_of_nonneg hb.1] at e2
  rw [e1, e2] at e
  have := (List.getElem_inj h.nodup).1 e
  have := ha.1
  have := hb.1
  omega
theorem NumP.renN {to u a b : List Int} (hu : IsS u) (ha : NumP to u a) (hb : NumP to u b) {s : Int} (hs : inN s to.length) (hm : atD to s ∈ u) : renN s a = renN s b := by
  rw [renN_in (by rw [ha.1]; exact hs), renN_in (by rw [hb.1]; exact hs)]
  obtain ⟨p1, p2⟩ := ha.2 s hs hm
  obtain ⟨q1, q2⟩ := hb.2 s hs hm
  exact hu.inj p1 q1 (by rw [p2, q2])
/-- How many are kept in all, and where the places lie. -/
theorem keep_facts (hf : WfF n i par f) {keep : List Bool} (hk : KeepP f keep) : atD keep ((f.Code.length : Int) - 1) = true ∧ cntK keep f.Code.length = cntK keep (f.Code.length - 1) + 1 ∧ ∀ t, inN t f.Code.length → inN (atD (plL keep) t) (cntK keep f.Code.length) := by
  have hc := hf.code
  have hkl := hk.1
  have hlastk : atD keep ((f.Code.length : Int) - 1) = true := by
    cases h : atD keep ((f.Code.length : Int) - 1) with
    | true => rfl
    | false =>
      have h1 := hk.2 _ ⟨by omega, by omega⟩ h
      unfold remB at h1
      rcases hf.last with q | q <;> rw [q] at h1 <;> simp at h1
  have htot : cntK keep f.Code.length = cntK keep (f.Code.length - 1) + 1 := by
    have e : f.Code.length = (f.Code.length - 1) + 1 := by omega
    have e2 : cntK keep ((f.Code.length - 1) + 1) = cntK keep (f.Code.length - 1) + (if atD keep ((f.Code.length - 1 : Nat) : Int) = true then 1 else 0) := rfl
    rw [← e] at e2
    rw [e2, show ((f.Code.length - 1 : Nat) : Int) = (f.Code.length : Int) - 1 by omega, if_pos hlastk]
  refine ⟨hlastk, htot, fun t ht => ?_⟩
  obtain ⟨t1, t2⟩ := ht
  rw [plL_at ⟨t1, by omega⟩]
  have h1 := cntK_bd keep t.toNat
  have h2 := cntK_mono keep (a := t.toNat) (b := f.Code.length - 1) (by omega)
  exact ⟨h1.1, by omega⟩
/-- Where a jump goes. -/
theorem jump_in (hf : WfF n i par f) {k : Int} (hk : inN k f.Code.length) : ((atD f.Code k).Op = 20 → inN (atD f.Code k).A f.Code.length) ∧ ((atD f.Code k).Op = 21 → inN (atD f.Code k).B f.Code.length) := by
  have hI := hf.at_ hk
  generalize atD f.Code k = x at *
  constructor
  · intro h
    cases hI <;> first | assumption | (simp at h; done) | (exfalso; dsimp only at h; omega)
  · intro h
    cases hI <;> first | assumption | (simp at h; done) | (exfalso; dsimp only at h; omega)
theorem renI_jump (x : AInstr) (l : List Int) (h : x.Op = 20 ∨ x.Op = 21) : renI x l = x := by unfold renI; rw [if_neg (by omega), if_neg (by omega), if_neg (by omega)]
end
end Go.Proofs.YtlhaoijkffhafaaGreatDoor.Q
