/- Applying a renaming: exactly what comes out. -/
import Derived.Test.YtlhaoijkffhafaaDoorP31b
set_option linter.unusedVariables false
set_option linter.unusedSimpArgs false
namespace Go.Proofs.YtlhaoijkffhafaaDoor.Q
section
variable {n i par : Int} {f : AFunc}
theorem check21X_sp (hf : WfF n i par f) (r : ARename) : WP (r21_Check f r) fun e => (ValidP f r.To ∧ KeepP f r.Keep → e = 0) ∧ (¬ (ValidP f r.To ∧ KeepP f r.Keep) → e = 12) := by
  have hc := hf.code
  have hsl := hf.slots
  unfold r21_Check
  refine WP.call (rvalid_sp f _ (by omega)) fun b hb => ?_
  refine WP.bif (fun wh => ?_) (fun wh => ?_)
  · exact WP.ret ⟨fun q => (by rw [hb.2 q.1] at wh; cases wh), fun _ => rfl⟩
  have hv := hb.1 (by simpa using wh)
  refine WP.bif (fun wh => ?_) (fun wh => ?_)
  · rw [Bool.not_eq_true', decide_eq_false_iff_not] at wh
    exact WP.ret ⟨fun q => (wh (by rw [q.2.1])).elim, fun _ => rfl⟩
  rw [Bool.not_eq_false', decide_eq_true_eq] at wh
  have hl := wh
  refine WP.loop (fun j => (0 ≤ j ∧ j ≤ f.Code.length) ∧ ∀ k, 0 ≤ k → k < j → atD r.Keep k = false → remB (atD f.Code k) = true) (fun j => f.Code.length - j.toNat) ⟨⟨by omega, by omega⟩, fun k h1 h2 => by exfalso; omega⟩ ?_
  rintro again k ⟨⟨a1, a2⟩, a3⟩ ih
  refine WP.bif (fun wh => ?_) (fun wh => ?_) <;> (try simp only [decide_eq_true_eq, decide_eq_false_iff_not, Bool.not_eq_true', Bool.not_eq_false', Bool.and_eq_true, Bool.or_eq_true, Bool.not_eq_true, Bool.not_eq_false, Int.not_lt, Int.not_le, ne_eq] at wh)
  · have hkl := wh
    have hgo : (atD r.Keep k = false → remB (atD f.Code k) = true) → WP (again (k + 1)) fun e => (ValidP f r.To ∧ KeepP f r.Keep → e = 0) ∧ (¬ (ValidP f r.To ∧ KeepP f r.Keep) → e = 12) := fun hq => by
      refine ih _ ⟨⟨by omega, by omega⟩, fun t h1 h2 => ?_⟩ (by omega)
      by_cases ht : t = k
      · rw [ht]; exact hq
      · exact a3 t h1 (by omega)
    refine WP.chk ⟨a1, by omega⟩ fun _ => ?_
    refine WP.bif (fun wh => ?_) (fun wh => ?_) <;> (try simp only [decide_eq_true_eq, decide_eq_false_iff_not, Bool.not_eq_true', Bool.not_eq_false', Bool.and_eq_true, Bool.or_eq_true, Bool.not_eq_true, Bool.not_eq_false, Int.not_lt, Int.not_le, ne_eq] at wh)
    · have hkf := wh
      refine WP.chk ⟨a1, hkl⟩ fun _ => ?_
      refine WP.call (removable_sp _) ?_
      rintro _ rfl
      refine WP.bif (fun wh => ?_) (fun wh => ?_) <;> (try simp only [decide_eq_true_eq, decide_eq_false_iff_not, Bool.not_eq_true', Bool.not_eq_false', Bool.and_eq_true, Bool.or_eq_true, Bool.not_eq_true, Bool.not_eq_false, Int.not_lt, Int.not_le, ne_eq] at wh)
      · exact WP.ret ⟨fun q => (by rw [q.2.2 k ⟨a1, hkl⟩ hkf] at wh; cases wh), fun _ => rfl⟩
      · exact WP.chk ⟨by omega, by omega⟩ fun _ => hgo fun _ => wh
    · exact WP.chk ⟨by omega, by omega⟩ fun _ => hgo fun q => (by rw [wh] at q; cases q)
  · exact WP.ret ⟨fun _ => rfl, fun q => (q ⟨hv, by omega, fun k hk => a3 k hk.1 (by have := hk.2; omega)⟩).elim⟩
/-- What an instruction writes. -/
def defS (x : AInstr) : List Int := if remB x then [x.A] else []
/-- What the kept ones among the first m instructions use and define. -/
def rawU (f : AFunc) (r : ARename) : Nat → List Int
  | 0 => []
  | m + 1 => rawU f r m ++ (if atD r.Keep m = true then useS (renI (atD f.Code m) r.To) ++ defS (renI (atD f.Code m) r.To) else [])
theorem mem_rawU {r : ARename} {y : Int} : ∀ {m : Nat}, y ∈ rawU f r m ↔ ∃ k, inN k m ∧ atD r.Keep k = true ∧ (y ∈ useS (renI (atD f.Code k) r.To) ∨ y ∈ defS (renI (atD f.Code k) r.To))
  | 0 => by
    unfold rawU
    refine ⟨fun h => (by cases h), ?_⟩
    rintro ⟨k, ⟨h1, h2⟩, _⟩
    exfalso; omega
  | m + 1 => by
    unfold rawU
    rw [List.mem_append, mem_rawU]
    constructor
    · rintro (⟨k, ⟨h1, h2⟩, h3⟩ | h)
      · exact ⟨k, ⟨h1, by omega⟩, h3⟩
      · split at h
        · rename_i hk
          exact ⟨m, ⟨by omega, by omega⟩, hk, List.mem_append.1 h⟩
        · cases h
    · rintro ⟨k, ⟨h1, h2⟩, h3, h4⟩
      by_cases hk : k = m
      · subst hk
        exact .inr (by rw [if_pos h3]; exact List.mem_append.2 h4)
      · exact .inl ⟨k, ⟨h1, by omega⟩, h3, h4⟩
theorem rawU_length (r : ARename) : ∀ m, (rawU f r m).length ≤ 2 * m
  | 0 => Nat.le_refl _
  | m + 1 => by
    have := rawU_length r m
    unfold rawU
    rw [List.length_append]
    split
    · have h1 : (useS (renI (atD f.Code m) r.To)).length ≤ 1 := by unfold useS; split <;> simp
      have h2 : (defS (renI (atD f.Code m) r.To)).length ≤ 1 := by unfold defS; split <;> simp
      rw [List.length_append]; omega
    · simp; omega
@[irreducible] def usedS (f : AFunc) (r : ARename) : List Int := setOf (rawU f r (min f.Code.length r.Keep.length))
theorem mem_usedS {r : ARename} {y : Int} : y ∈ usedS f r ↔ y ∈ rawU f r (min f.Code.length r.Keep.length) ∧ 0 ≤ y ∧ y < 512 := by unfold usedS; exact mem_setOf
theorem IsS.usedS (f : AFunc) (r : ARename) : IsS (Go.Proofs.YtlhaoijkffhafaaDoor.Q.usedS f r) := by unfold Go.Proofs.YtlhaoijkffhafaaDoor.Q.usedS; exact IsS.setOf _
theorem rusedX_sp (f : AFunc) (r : ARename) (hc : f.Code.length ≤ 1000000) : WP (r21_Used f r) (· = usedS f r) := by
  unfold r21_Used
  refine WP.loop (fun j => ∃ m : Nat, j.2 = m ∧ m ≤ f.Code.length ∧ m ≤ r.Keep.length ∧ IsS j.1 ∧ ∀ y, y ∈ j.1 ↔ y ∈ rawU f r m ∧ 0 ≤ y ∧ y < 512) (fun j => f.Code.length - j.2.toNat) ⟨0, rfl, by omega, by omega, IsS.nil, fun y => ⟨fun h => (by cases h), fun h => (by cases h.1)⟩⟩ ?_
  rintro again ⟨u, k⟩ ⟨m, h1, h2, h3, h4, h5⟩ ih
  dsimp only at h1 h4 h5 ih ⊢
  subst h1
  have hul := h4.length
  have fin : m = min f.Code.length r.Keep.length → u = usedS f r := fun e => by
    refine h4.ext (IsS.usedS f r) fun x => ?_
    rw [h5 x, mem_usedS, ← e]
  refine WP.bif (fun wh => ?_) (fun wh => ?_) <;> (try simp only [decide_eq_true_eq, decide_eq_false_iff_not, Bool.not_eq_true', Bool.not_eq_false', Bool.and_eq_true, Bool.or_eq_true, Bool.not_eq_true, Bool.not_eq_false, Int.not_lt, Int.not_le, ne_eq] at wh)
  · have hml := wh
    refine WP.bif (fun wh => ?_) (fun wh => ?_) <;> (try simp only [decide_eq_true_eq, decide_eq_false_iff_not, Bool.not_eq_true', Bool.not_eq_false', Bool.and_eq_true, Bool.or_eq_true, Bool.not_eq_true, Bool.not_eq_false, Int.not_lt, Int.not_le, ne_eq] at wh)
    · refine WP.chk ⟨by omega, wh⟩ fun _ => ?_
      refine WP.bif (fun wh => ?_) (fun wh => ?_) <;> (try simp only [decide_eq_true_eq, decide_eq_false_iff_not, Bool.not_eq_true', Bool.not_eq_false', Bool.and_eq_true, Bool.or_eq_true, Bool.not_eq_true, Bool.not_eq_false, Int.not_lt, Int.not_le, ne_eq] at wh)
      · refine WP.chk ⟨by omega, by omega⟩ fun _ => ?_
        refine ih _ ⟨m + 1, by simp, by omega, by omega, h4, fun y => ?_⟩ (by dsimp only; omega)
        dsimp only
        have e : rawU f r (m + 1) = rawU f r m := by rw [rawU, wh]; simp
        rw [h5 y, e]
      · refine WP.chk ⟨by omega, hml⟩ fun _ => ?_
        have hk := wh
        have hstep : ∀ y, y ∈ rawU f r (m + 1) ↔ y ∈ rawU f r m ∨ y ∈ useS (renI (atD f.Code m) r.To) ∨ y ∈ defS (renI (atD f.Code m) r.To) := fun y => by
          rw [rawU, if_pos hk, List.mem_append, List.mem_append]
        refine WP.call (Renamed15_sp _ _) ?_
        rintro _ rfl
        generalize renI (atD f.Code m) r.To = x at *
        refine WP.call (uses_sp _) ?_
        rintro _ rfl
        have hux : (useS x).length ≤ 1 := by unfold useS; split <;> simp
        refine WP.call (union_sp _ _ (by omega)) ?_
        rintro _ rfl
        have hU : IsS (unionS u (useS x)) := h4.union _
        have hUl := hU.length
        refine WP.call (defines_sp _) ?_
        rintro _ rfl
        cases hrem : remB x with
        | true =>
          refine WP.bif (fun _ => ?_) (fun q => by cases q)
          refine WP.call (add_sp _ _ (by omega)) ?_
          rintro _ rfl
          refine WP.chk ⟨by omega, by omega⟩ fun _ => ?_
          refine ih _ ⟨m + 1, by simp, by omega, by omega, hU.add _, fun y => ?_⟩ (by dsimp only; omega)
          dsimp only
          rw [mem_addS, mem_unionS, h5 y, hstep y]
          unfold defS
          rw [if_pos hrem]
          simp only [List.mem_singleton, if_true]
          constructor
          · rintro ((⟨q, q1⟩ | ⟨q, q1⟩) | ⟨q, q1⟩)
            · exact ⟨.inl q, q1⟩
            · exact ⟨.inr (.inl q), q1⟩
            · exact ⟨.inr (.inr q), by omega⟩
          · rintro ⟨q | q | q, q1⟩
            · exact .inl (.inl ⟨q, q1⟩)
            · exact .inl (.inr ⟨q, q1⟩)
            · exact .inr ⟨q, by omega⟩
        | false =>
          refine WP.bif (fun q => by cases q) (fun _ => ?_)
          refine WP.chk ⟨by omega, by omega⟩ fun _ => ?_
          refine ih _ ⟨m + 1, by simp, by omega, by omega, hU, fun y => ?_⟩ (by dsimp only; omega)
          dsimp only
          rw [mem_unionS, h5 y, hstep y]
          unfold defS
          rw [hrem]
          simp only [Bool.false_eq_true, if_false, List.not_mem_nil, or_false]
          constructor
          · rintro (⟨q, q1⟩ | ⟨q, q1⟩)
            · exact ⟨.inl q, q1⟩
            · exact ⟨.inr q, q1⟩
          · rintro ⟨q | q, q1⟩
            · exact .inl ⟨q, q1⟩
            · exact .inr ⟨q, q1⟩
    · exact WP.ret (fin (by omega))
  · exact WP.ret (fin (by omega))
theorem usedS_U (hf : WfF n i par f) {r : ARename} (hv : ValidP f r.To) (hk : KeepP f r.Keep) : UsedP f r f.Code.length (usedS f r) := by
  have hsl := hf.slots
  have hkl := hk.1
  have hto := hv.1
  have hmin : min f.Code.length r.Keep.length = f.Code.length := by omega
  have hur : ∀ k, inN k f.Code.length → ∀ y, y ∈ useS (renI (atD f.Code k) r.To) → inN y f.Slots.length := fun k hk y hy => by
    have hI := hf.at_ hk
    rw [renI_use] at hy
    split at hy
    · rename_i h
      rw [one_mem hy]
      have hB := hI.use (y := (atD f.Code k).B) (by unfold useS; rw [if_pos h]; exact List.mem_cons_self)
      rw [renN_in (by rw [hto]; exact hB)]
      have := (hv.2 _ (by rw [hto]; exact hB)).1
      rw [hto] at this; exact this
    · cases hy
  have hdr : ∀ k, inN k f.Code.length → remB (atD f.Code k) = true → inN (renI (atD f.Code k) r.To).A f.Slots.length := fun k hk h => by
    have hI := hf.at_ hk
    have hA := hI.dfn h
    rw [renI_A _ _ h, renN_in (by rw [hto]; exact hA)]
    have := (hv.2 _ (by rw [hto]; exact hA)).1
    rw [hto] at this; exact this
  unfold usedS
  rw [hmin]
  refine ⟨IsS.setOf _, fun y hy => ?_, fun k h1 h2 h3 y hy => ?_, fun k h1 h2 h3 h4 => ?_⟩
  · obtain ⟨k, hk, hk2, h⟩ := mem_rawU.1 (mem_setOf.1 hy).1
    rcases h with h | h
    · exact hur k hk y h
    · unfold defS at h
      split at h
      · rename_i hr
        rw [renI_rem] at hr
        rw [one_mem h]
        exact hdr k hk hr
      · cases h
  · obtain ⟨q1, q2⟩ := hur k ⟨h1, h2⟩ y hy
    exact mem_setOf.2 ⟨mem_rawU.2 ⟨k, ⟨h1, h2⟩, h3, .inl hy⟩, q1, by omega⟩
  · obtain ⟨q1, q2⟩ := hdr k ⟨h1, h2⟩ h4
    exact mem_setOf.2 ⟨mem_rawU.2 ⟨k, ⟨h1, h2⟩, h3, .inr (by unfold defS; rw [if_pos (by rw [renI_rem]; exact h4)]; exact List.mem_cons_self)⟩, q1, by omega⟩
/-- The places. -/
def plL (keep : List Bool) : List Int := (List.range keep.length).map fun k : Nat => cntK keep k
theorem plL_len (keep : List Bool) : (plL keep).length = keep.length := by simp [plL]
theorem plL_at {keep : List Bool} {k : Int} (h : inN k keep.length) : atD (plL keep) k = cntK keep k.toNat := by
  obtain ⟨h1, h2⟩ := h
  have h3 : k.toNat < (plL keep).length := by rw [plL_len]; omega
  have h4 := atD_nat h3
  rw [Int.toNat_of_nonneg h1] at h4
  rw [h4]
  simp [plL]
theorem rplaces_sp (r : ARename) (hl : r.Keep.length ≤ 1000000) : WP (r21_Places r) (· = plL r.Keep) :=
  (places21_sp r hl).mono fun pl ⟨h1, h2⟩ => atD_ext (by rw [h1, plL_len]) fun k hk => by rw [h2 k (by rw [← h1]; exact hk), plL_at (by rw [← h1]; exact hk)]
/-- The slot that takes the place of a class. -/
def slotOf (f : AFunc) (to : List Int) (s : Int) : ASlot := ⟨(atD f.Slots s).Size, (membS to s).foldl (fun a t => max a (atD f.Slots t).Align) (atD f.Slots s).Align⟩
/-- The kept ones among the first m instructions, with other slots and targets. -/
def codeOf (f : AFunc) (keep : List Bool) (nums pl : List Int) : Nat → List AInstr
  | 0 => []
  | m + 1 => codeOf f keep nums pl m ++ (if atD keep m = true then [retI (renI (atD f.Code m) nums) pl] else [])
theorem codeOf_length (keep : List Bool) (nums pl : List Int) : ∀ m, ((codeOf f keep nums pl m).length : Int) = cntK keep m
  | 0 => rfl
  | m + 1 => by
    have := codeOf_length keep nums pl m
    unfold codeOf cntK
    rw [List.length_append]
    split <;> simp <;> omega
def appF (f : AFunc) (r : ARename) (nums : List Int) : AFunc := ⟨f.Params, (usedS f r).map (slotOf f r.To), codeOf f r.Keep nums (plL r.Keep) f.Code.length⟩
def AppP (f : AFunc) (r : ARename) (x : AFunc) : Prop := ∃ nums, NumP r.To (usedS f r) nums ∧ x = appF f r nums
theorem IsS.inj {u : List Int} (h : IsS u) {a b : Int} (ha : inN a u.length) (hb : inN b u.length) (e : atD u a = atD u b) : a = b := by
  have h1 : a.toNat < u.length := by have := ha.2; have := ha.1; omega
  have h2 : b.toNat < u.length := by have := hb.2; have := hb.1; omega
  have e1 := atD_nat h1
  have e2 := atD_nat h2
  rw [Int.toNat_of_nonneg ha.1] at e1
  rw [Int.toNat_of_nonneg hb.1] at e2
  rw [e1, e2] at e
  have := (List.getElem_inj h.nodup).1 e
  have := ha.1
  have := hb.1
  omega
theorem NumP.renN {to u a b : List Int} (hu : IsS u) (ha : NumP to u a) (hb : NumP to u b) {s : Int} (hs : inN s to.length) (hm : atD to s ∈ u) : renN s a = renN s b := by
  rw [renN_in (by rw [ha.1]; exact hs), renN_in (by rw [hb.1]; exact hs)]
  obtain ⟨p1, p2⟩ := ha.2 s hs hm
  obtain ⟨q1, q2⟩ := hb.2 s hs hm
  exact hu.inj p1 q1 (by rw [p2, q2])
theorem AppP.uniq (hf : WfF n i par f) {r : ARename} (hv : ValidP f r.To) (hk : KeepP f r.Keep) {x y : AFunc} (hx : AppP f r x) (hy : AppP f r y) : x = y := by
  obtain ⟨a, ha, rfl⟩ := hx
  obtain ⟨b, hb, rfl⟩ := hy
  have hU := usedS_U hf hv hk
  have hto := hv.1
  have key : ∀ m : Nat, m ≤ f.Code.length → codeOf f r.Keep a (plL r.Keep) m = codeOf f r.Keep b (plL r.Keep) m := by
    intro m
    induction m with
    | zero => intro _; rfl
    | succ m ih =>
      intro hm
      unfold codeOf
      rw [ih (by omega)]
      congr 1
      split
      · rename_i hkp
        have hI := hf.at_ (k := m) ⟨by omega, by omega⟩
        have e : renI (atD f.Code m) a = renI (atD f.Code m) b := by
          have hA : remB (atD f.Code m) = true → renN (atD f.Code m).A a = renN (atD f.Code m).A b := fun h => by
            have hin := hI.dfn h
            have hin' : inN (atD f.Code m).A r.To.length := by rw [hto]; exact hin
            refine ha.renN hU.set hb hin' ?_
            have := hU.dfn m (by omega) (by omega) hkp h
            rw [renI_A _ _ h, renN_in hin'] at this
            exact this
          have hB : (atD f.Code m).Op = 15 ∨ (atD f.Code m).Op = 17 → renN (atD f.Code m).B a = renN (atD f.Code m).B b := fun h => by
            have hin := hI.use (y := (atD f.Code m).B) (by unfold useS; rw [if_pos h]; exact List.mem_cons_self)
            have hin' : inN (atD f.Code m).B r.To.length := by rw [hto]; exact hin
            refine ha.renN hU.set hb hin' ?_
            have := hU.use m (by omega) (by omega) hkp (renN (atD f.Code m).B r.To) (by rw [renI_use, if_pos h]; exact List.mem_cons_self)
            rw [renN_in hin'] at this
            exact this
          unfold renI
          split
          · rename_i h; rw [hB (.inl h)]
          · split
            · rename_i h; rw [hA (by simp [remB, h])]
            · split
              · rename_i h; rw [hA (by simp [remB, h]), hB (.inr h)]
              · rfl
        rw [e]
      · rfl
  unfold appF
  rw [key _ (Nat.le_refl _)]
/-- How many are kept in all, and where the places lie. -/
theorem keep_facts (hf : WfF n i par f) {keep : List Bool} (hk : KeepP f keep) : atD keep ((f.Code.length : Int) - 1) = true ∧ cntK keep f.Code.length = cntK keep (f.Code.length - 1) + 1 ∧ ∀ t, inN t f.Code.length → inN (atD (plL keep) t) (cntK keep f.Code.length) := by
  have hc := hf.code
  have hkl := hk.1
  have hlastk : atD keep ((f.Code.length : Int) - 1) = true := by
    cases h : atD keep ((f.Code.length : Int) - 1) with
    | true => rfl
    | false =>
      have h1 := hk.2 _ ⟨by omega, by omega⟩ h
      unfold remB at h1
      rcases hf.last with q | q <;> rw [q] at h1 <;> simp at h1
  have htot : cntK keep f.Code.length = cntK keep (f.Code.length - 1) + 1 := by
    have e : f.Code.length = (f.Code.length - 1) + 1 := by omega
    have e2 : cntK keep ((f.Code.length - 1) + 1) = cntK keep (f.Code.length - 1) + (if atD keep ((f.Code.length - 1 : Nat) : Int) = true then 1 else 0) := rfl
    rw [← e] at e2
    rw [e2, show ((f.Code.length - 1 : Nat) : Int) = (f.Code.length : Int) - 1 by omega, if_pos hlastk]
  refine ⟨hlastk, htot, fun t ht => ?_⟩
  obtain ⟨t1, t2⟩ := ht
  rw [plL_at ⟨t1, by omega⟩]
  have h1 := cntK_bd keep t.toNat
  have h2 := cntK_mono keep (a := t.toNat) (b := f.Code.length - 1) (by omega)
  exact ⟨h1.1, by omega⟩
/-- Where a jump goes. -/
theorem jump_in (hf : WfF n i par f) {k : Int} (hk : inN k f.Code.length) : ((atD f.Code k).Op = 20 → inN (atD f.Code k).A f.Code.length) ∧ ((atD f.Code k).Op = 21 → inN (atD f.Code k).B f.Code.length) := by
  have hI := hf.at_ hk
  generalize atD f.Code k = x at *
  constructor
  · intro h
    cases hI <;> first | assumption | (simp at h; done) | (exfalso; dsimp only at h; omega)
  · intro h
    cases hI <;> first | assumption | (simp at h; done) | (exfalso; dsimp only at h; omega)
theorem renI_jump (x : AInstr) (l : List Int) (h : x.Op = 20 ∨ x.Op = 21) : renI x l = x := by unfold renI; rw [if_neg (by omega), if_neg (by omega), if_neg (by omega)]
theorem rapplyX_sp (hf : WfF n i par f) (r : ARename) : WP (r21_Apply f r) fun x => (ValidP f r.To ∧ KeepP f r.Keep → x.2 = 0 ∧ AppP f r x.1) ∧ (¬ (ValidP f r.To ∧ KeepP f r.Keep) → x = (⟨0, [], []⟩, 12)) := by
  have hc := hf.code
  have hsl := hf.slots
  unfold r21_Apply
  refine WP.call (check21X_sp hf r) fun e ⟨he1, he2⟩ => ?_
  by_cases hvk : ValidP f r.To ∧ KeepP f r.Keep
  case neg =>
    rw [he2 hvk]
    exact WP.bif (fun _ => WP.ret ⟨fun q => (hvk q).elim, fun _ => rfl⟩) (fun wh => by simp at wh)
  rw [he1 hvk]
  refine WP.bif (fun wh => by simp at wh) (fun _ => ?_)
  obtain ⟨hv, hk⟩ := hvk
  refine WP.mono (Q := fun x => x.2 = 0 ∧ AppP f r x.1) ?_ fun x hx => ⟨fun _ => hx, fun q => (q ⟨hv, hk⟩).elim⟩
  have hto := hv.1
  have hkl := hk.1
  refine WP.call (rusedX_sp f r (by omega)) ?_
  rintro _ rfl
  have hU := usedS_U hf hv hk
  generalize hu : usedS f r = u at *
  have hul := asc_short hU.set hU.lt
  refine WP.loop (fun j => (0 ≤ j.1 ∧ j.1 ≤ u.length) ∧ j.2 = (u.take j.1.toNat).map (slotOf f r.To)) (fun j => u.length - j.1.toNat) ⟨⟨by simp, by simp⟩, rfl⟩ ?_
  rintro again1 ⟨t, sl⟩ ⟨⟨a1, a2⟩, a3⟩ ih1
  dsimp only at a1 a2 a3 ih1 ⊢
  have hsll : sl.length = t.toNat := by rw [a3, List.length_map, List.length_take]; omega
  refine WP.bif (fun wh => ?_) (fun wh => ?_) <;> (try simp only [decide_eq_true_eq, decide_eq_false_iff_not, Bool.not_eq_true', Bool.not_eq_false', Bool.and_eq_true, Bool.or_eq_true, Bool.not_eq_true, Bool.not_eq_false, Int.not_lt, Int.not_le, ne_eq] at wh)
  · have htl := wh
    have hut := hU.lt _ (atD_mem ⟨a1, wh⟩)
    refine WP.chk ⟨a1, wh⟩ fun _ => ?_
    refine WP.chk hut fun _ => ?_
    refine WP.chk ⟨a1, htl⟩ fun _ => ?_
    refine WP.call (members_sp _ _ (by omega)) ?_
    rintro _ rfl
    have hml := membS_length r.To (atD u t)
    generalize hmm : membS r.To (atD u t) = mm at *
    refine WP.loop (fun j => (0 ≤ j.1 ∧ j.1 ≤ mm.length) ∧ j.2 = ⟨(atD f.Slots (atD u t)).Size, (mm.take j.1.toNat).foldl (fun a t => max a (atD f.Slots t).Align) (atD f.Slots (atD u t)).Align⟩) (fun j => mm.length - j.1.toNat) ⟨⟨by simp, by simp⟩, rfl⟩ ?_
    rintro again2 ⟨q, x⟩ ⟨⟨b1, b2⟩, b3⟩ ih2
    dsimp only at b1 b2 b3 ih2 ⊢
    refine WP.bif (fun wh => ?_) (fun wh => ?_) <;> (try simp only [decide_eq_true_eq, decide_eq_false_iff_not, Bool.not_eq_true', Bool.not_eq_false', Bool.and_eq_true, Bool.or_eq_true, Bool.not_eq_true, Bool.not_eq_false, Int.not_lt, Int.not_le, ne_eq] at wh)
    · have hql := wh
      have hmi := (mem_membS.1 (by rw [hmm]; exact atD_mem ⟨b1, wh⟩ : atD mm q ∈ membS r.To (atD u t))).1
      rw [hto] at hmi
      refine WP.chk ⟨b1, wh⟩ fun _ => ?_
      refine WP.chk hmi fun _ => ?_
      refine WP.chk ⟨by omega, by omega⟩ fun _ => ?_
      refine ih2 _ ⟨⟨by dsimp only; omega, by dsimp only; omega⟩, ?_⟩ (by dsimp only; omega)
      dsimp only
      rw [take_atD ⟨b1, hql⟩, List.foldl_append, b3]
      rfl
    · refine WP.chk (by omega) fun _ => ?_
      refine WP.chk (by simp only [List.length_singleton]; omega) fun _ => ?_
      refine WP.chk ⟨by omega, by omega⟩ fun _ => ?_
      refine ih1 _ ⟨⟨by dsimp only; omega, by dsimp only; omega⟩, ?_⟩ (by dsimp only; omega)
      dsimp only
      rw [take_all (by omega)] at b3
      rw [take_atD ⟨a1, htl⟩, List.map_append, ← a3, b3]
      simp [slotOf, hmm]
  · rw [take_all (by omega)] at a3
    refine WP.call (numbers21_sp r u (by omega) (by omega)) fun nums hN => ?_
    refine WP.call (rplaces_sp r (by omega)) ?_
    rintro _ rfl
    have hpll := plL_len r.Keep
    refine WP.loop (fun j => ∃ m : Nat, j.1 = m ∧ m ≤ f.Code.length ∧ j.2 = codeOf f r.Keep nums (plL r.Keep) m) (fun j => f.Code.length - j.1.toNat) ⟨0, rfl, by omega, rfl⟩ ?_
    rintro again3 ⟨k, code⟩ ⟨m, b1, b2, b3⟩ ih3
    dsimp only at b1 b3 ih3 ⊢
    subst b1
    have hcl := codeOf_length (f := f) r.Keep nums (plL r.Keep) m
    rw [← b3] at hcl
    have hbk := cntK_bd r.Keep m
    refine WP.bif (fun wh => ?_) (fun wh => ?_) <;> (try simp only [decide_eq_true_eq, decide_eq_false_iff_not, Bool.not_eq_true', Bool.not_eq_false', Bool.and_eq_true, Bool.or_eq_true, Bool.not_eq_true, Bool.not_eq_false, Int.not_lt, Int.not_le, ne_eq] at wh)
    · have hkl2 := wh
      obtain ⟨j1, j2⟩ := jump_in hf (k := m) ⟨by omega, wh⟩
      refine WP.chk ⟨by omega, by omega⟩ fun _ => ?_
      refine WP.bif (fun wh => ?_) (fun wh => ?_)
      · rw [Bool.not_eq_true'] at wh
        refine WP.chk ⟨by omega, by omega⟩ fun _ => ?_
        refine ih3 _ ⟨m + 1, by simp, by omega, ?_⟩ (by dsimp only; omega)
        dsimp only
        rw [codeOf, wh, b3]
        simp
      · rw [Bool.not_eq_false'] at wh
        have hkeep := wh
        refine WP.chk ⟨by omega, hkl2⟩ fun _ => ?_
        refine WP.call (Renamed15_sp _ _) ?_
        rintro _ rfl
        refine WP.join (fun x => x = retI (renI (atD f.Code m) nums) (plL r.Keep)) ?_ ?_
        · rintro _ rfl
          refine WP.chk (by omega) fun _ => ?_
          refine WP.chk (by simp only [List.length_singleton]; omega) fun _ => ?_
          refine WP.chk ⟨by omega, by omega⟩ fun _ => ?_
          refine ih3 _ ⟨m + 1, by simp, by omega, ?_⟩ (by dsimp only; omega)
          dsimp only
          rw [codeOf, if_pos hkeep, b3]
        · intro k3 hk3
          refine WP.bif (fun wh => ?_) (fun wh => ?_) <;> (try simp only [decide_eq_true_eq, decide_eq_false_iff_not, Bool.not_eq_true', Bool.not_eq_false', Bool.and_eq_true, Bool.or_eq_true, Bool.not_eq_true, Bool.not_eq_false, Int.not_lt, Int.not_le, ne_eq] at wh)
          · have h20 := wh
            rw [renI_op] at h20
            have e := renI_jump (atD f.Code m) nums (.inl h20)
            obtain ⟨q1, q2⟩ := j1 h20
            refine WP.chk ⟨by rw [e]; exact q1, by rw [e, hpll]; omega⟩ fun _ => ?_
            exact hk3 _ (by unfold retI; rw [if_pos wh])
          have h20 := wh
          refine WP.bif (fun wh => ?_) (fun wh => ?_) <;> (try simp only [decide_eq_true_eq, decide_eq_false_iff_not, Bool.not_eq_true', Bool.not_eq_false', Bool.and_eq_true, Bool.or_eq_true, Bool.not_eq_true, Bool.not_eq_false, Int.not_lt, Int.not_le, ne_eq] at wh)
          · have h21 := wh
            rw [renI_op] at h21
            have e := renI_jump (atD f.Code m) nums (.inr h21)
            obtain ⟨q1, q2⟩ := j2 h21
            refine WP.chk ⟨by rw [e]; exact q1, by rw [e, hpll]; omega⟩ fun _ => ?_
            exact hk3 _ (by unfold retI; rw [if_neg h20, if_pos wh])
          · exact hk3 _ (by unfold retI; rw [if_neg h20, if_neg wh])
    · refine WP.ret ⟨rfl, nums, by rw [hu]; exact hN, ?_⟩
      unfold appF
      rw [hu, ← a3, b3, show m = f.Code.length by omega]
end
end Go.Proofs.YtlhaoijkffhafaaDoor.Q
