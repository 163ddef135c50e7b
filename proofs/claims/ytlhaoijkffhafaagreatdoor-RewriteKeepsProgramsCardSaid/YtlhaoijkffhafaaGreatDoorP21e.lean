/- Rewriting: what the program's functions compute. -/
import Derived.Test.YtlhaoijkffhafaaGreatDoorP21d
import Derived.Test.YtlhaoijkffhafaaGreatDoorP32
set_option linter.unusedVariables false
set_option linter.unusedSimpArgs false
namespace Go.Proofs.YtlhaoijkffhafaaGreatDoor.Q
theorem atD_out {α : Type} [Inhabited α] {l : List α} {k : Int} (h : (l.length : Int) ≤ k) : atD l k = default := by
  unfold atD
  rw [List.getD_eq_getElem?_getD, List.getElem?_eq_none (by omega)]
  rfl
theorem renQ_eq (s : Int) (l : List Int) : renQ s l = renN s l := rfl
theorem eRenamed_sp (x : AInstr) (l : List Int) : WP (effect_Renamed x l) (· = renI x l) := by
  unfold effect_Renamed
  refine WP.ret ?_
  unfold renI
  rw [renQ_eq, renQ_eq]
  by_cases h15 : x.Op = 15
  · rw [if_pos h15, if_neg (by omega), if_pos (by omega)]
  · rw [if_neg h15]
    by_cases h16 : x.Op = 16
    · rw [if_pos h16, if_pos (by omega), if_neg (by omega)]
    · rw [if_neg h16]
      by_cases h17 : x.Op = 17
      · rw [if_pos h17, if_pos (by omega), if_pos (by omega)]
      · rw [if_neg h17, if_neg (by omega), if_neg (by omega)]
theorem eremov_sp (x : AInstr) : WP (effect_Removable x) (· = remB x) := by
  unfold effect_Removable
  refine WP.call (edefines_sp x) ?_
  rintro _ rfl
  refine WP.ret ?_
  cases remB x <;> rfl
theorem euses_sp (x : AInstr) : WP (effect_Uses x) (· = useS x) := by
  unfold effect_Uses useS
  refine WP.bif (fun wh => ?_) (fun wh => ?_) <;> (try simp only [decide_eq_true_eq, decide_eq_false_iff_not, Bool.not_eq_true', Bool.not_eq_false', Bool.and_eq_true, Bool.or_eq_true, Bool.not_eq_true, Bool.not_eq_false, Int.not_lt, Int.not_le, ne_eq] at wh)
  · exact WP.ret (by rw [if_pos (.inl wh)])
  · have h := wh
    refine WP.bif (fun wh => ?_) (fun wh => ?_) <;> (try simp only [decide_eq_true_eq, decide_eq_false_iff_not, Bool.not_eq_true', Bool.not_eq_false', Bool.and_eq_true, Bool.or_eq_true, Bool.not_eq_true, Bool.not_eq_false, Int.not_lt, Int.not_le, ne_eq] at wh)
    · exact WP.ret (by rw [if_pos (.inr wh)])
    · exact WP.ret (by rw [if_neg (fun q => q.elim h wh)])
section
variable {n i par : Int} {f : AFunc}
theorem rwcheck_sp (hf : WfF n i par f) (r : ARename) : WP (rewrite_Check f r) fun e => (ValidP f r.To ∧ KeepP f r.Keep → e = 0) ∧ (¬ (ValidP f r.To ∧ KeepP f r.Keep) → e = 12) := by
  have hc := hf.code
  have hsl := hf.slots
  unfold rewrite_Check
  refine WP.call (cvalid_sp f _ (by omega)) fun b hb => ?_
  refine WP.bif (fun wh => ?_) (fun wh => ?_)
  · exact WP.ret ⟨fun q => (by rw [hb.2 q.1] at wh; cases wh), fun _ => rfl⟩
  have hv := hb.1 (by simpa using wh)
  refine WP.bif (fun wh => ?_) (fun wh => ?_)
  · rw [Bool.not_eq_true', decide_eq_false_iff_not] at wh
    exact WP.ret ⟨fun q => (wh (by rw [q.2.1])).elim, fun _ => rfl⟩
  rw [Bool.not_eq_false', decide_eq_true_eq] at wh
  have hl := wh
  refine WP.loop (fun j => (0 ≤ j ∧ j ≤ f.Code.length) ∧ ∀ k, 0 ≤ k → k < j → atD r.Keep k = false → remB (atD f.Code k) = true) (fun j => f.Code.length - j.toNat) ⟨⟨by omega, by omega⟩, fun k h1 h2 => by exfalso; omega⟩ ?_
  rintro again k ⟨⟨a1, a2⟩, a3⟩ ih
  refine WP.bif (fun wh => ?_) (fun wh => ?_) <;> (try simp only [decide_eq_true_eq, decide_eq_false_iff_not, Bool.not_eq_true', Bool.not_eq_false', Bool.and_eq_true, Bool.or_eq_true, Bool.not_eq_true, Bool.not_eq_false, Int.not_lt, Int.not_le, ne_eq] at wh)
  · have hkl := wh
    have hgo : (atD r.Keep k = false → remB (atD f.Code k) = true) → WP (again (k + 1)) fun e => (ValidP f r.To ∧ KeepP f r.Keep → e = 0) ∧ (¬ (ValidP f r.To ∧ KeepP f r.Keep) → e = 12) := fun hq => by
      refine ih _ ⟨⟨by omega, by omega⟩, fun t h1 h2 => ?_⟩ (by omega)
      by_cases ht : t = k
      · rw [ht]; exact hq
      · exact a3 t h1 (by omega)
    refine WP.chk ⟨a1, hkl⟩ fun _ => ?_
    refine WP.chk ⟨a1, by omega⟩ fun _ => ?_
    refine WP.bif (fun wh => ?_) (fun wh => ?_) <;> (try simp only [decide_eq_true_eq, decide_eq_false_iff_not, Bool.not_eq_true', Bool.not_eq_false', Bool.and_eq_true, Bool.or_eq_true, Bool.not_eq_true, Bool.not_eq_false, Int.not_lt, Int.not_le, ne_eq] at wh)
    · have hkf := wh
      refine WP.call (eremov_sp _) ?_
      rintro _ rfl
      refine WP.bif (fun wh => ?_) (fun wh => ?_) <;> (try simp only [decide_eq_true_eq, decide_eq_false_iff_not, Bool.not_eq_true', Bool.not_eq_false', Bool.and_eq_true, Bool.or_eq_true, Bool.not_eq_true, Bool.not_eq_false, Int.not_lt, Int.not_le, ne_eq] at wh)
      · exact WP.ret ⟨fun q => (by rw [q.2.2 k ⟨a1, hkl⟩ hkf] at wh; cases wh), fun _ => rfl⟩
      · exact WP.chk ⟨by omega, by omega⟩ fun _ => hgo fun _ => wh
    · exact WP.chk ⟨by omega, by omega⟩ fun _ => hgo fun q => (by rw [wh] at q; cases q)
  · exact WP.ret ⟨fun _ => rfl, fun q => (q ⟨hv, by omega, fun k hk => a3 k hk.1 (by have := hk.2; omega)⟩).elim⟩
theorem rwplaces_sp (r : ARename) (hl : r.Keep.length ≤ 1000000) : WP (rewrite_Places r) (· = plL r.Keep) := by
  refine WP.mono (Q := fun pl => pl.length = r.Keep.length ∧ ∀ k, inN k r.Keep.length → atD pl k = cntK r.Keep k.toNat) ?_ fun pl ⟨h1, h2⟩ => atD_ext (by rw [h1, plL_len]) fun k hk => by rw [h2 k (by rw [← h1]; exact hk), plL_at (by rw [← h1]; exact hk)]
  unfold rewrite_Places
  refine WP.loop (fun j => (0 ≤ j.2.1 ∧ j.2.1 ≤ r.Keep.length) ∧ j.1 = cntK r.Keep j.2.1.toNat ∧ (j.2.2.length : Int) = j.2.1 ∧ ∀ k, 0 ≤ k → k < j.2.1 → atD j.2.2 k = cntK r.Keep k.toNat) (fun j => r.Keep.length - j.2.1.toNat) ⟨⟨by simp, by simp⟩, rfl, by simp, fun s h1 h2 => by exfalso; dsimp only at h2; omega⟩ ?_
  rintro again ⟨m, k, out⟩ ⟨⟨a1, a2⟩, a3, a4, a5⟩ ih
  dsimp only at a1 a2 a3 a4 a5 ih ⊢
  have hb := cntK_bd r.Keep k.toNat
  refine WP.bif (fun wh => ?_) (fun wh => ?_) <;> (try simp only [decide_eq_true_eq, decide_eq_false_iff_not, Bool.not_eq_true', Bool.not_eq_false', Bool.and_eq_true, Bool.or_eq_true, Bool.not_eq_true, Bool.not_eq_false, Int.not_lt, Int.not_le, ne_eq] at wh)
  · have hkl := wh
    have hkn : ((k.toNat : Nat) : Int) = k := Int.toNat_of_nonneg a1
    have hnx : cntK r.Keep (k + 1).toNat = cntK r.Keep k.toNat + (if atD r.Keep k = true then 1 else 0) := by
      rw [show (k + 1).toNat = k.toNat + 1 by omega, cntK_succ, hkn]
    have hout : ∀ x, 0 ≤ x → x < k + 1 → atD (out ++ [m]) x = cntK r.Keep x.toNat := fun x h1 h2 => by
      by_cases hx : x = k
      · subst hx; rw [atD_last (by omega)]; exact a3
      · rw [atD_append_left (by omega)]; exact a5 x h1 (by omega)
    refine WP.chk ⟨a1, wh⟩ fun _ => ?_
    refine WP.chk (by simp only [List.length_singleton]; omega) fun _ => ?_
    refine WP.bif (fun wh => ?_) (fun wh => ?_)
    · refine WP.chk ⟨by omega, by omega⟩ fun _ => ?_
      refine WP.chk ⟨by omega, by omega⟩ fun _ => ?_
      exact ih _ ⟨⟨by dsimp only; omega, by dsimp only; omega⟩, by dsimp only; rw [hnx, if_pos wh]; omega, by simp only [List.length_append, List.length_singleton]; omega, hout⟩ (by dsimp only; omega)
    · refine WP.chk ⟨by omega, by omega⟩ fun _ => ?_
      exact ih _ ⟨⟨by dsimp only; omega, by dsimp only; omega⟩, by dsimp only; rw [hnx, if_neg (by rw [wh]; simp)]; omega, by simp only [List.length_append, List.length_singleton]; omega, hout⟩ (by dsimp only; omega)
  · exact WP.ret ⟨by omega, fun k hk => a5 k hk.1 (by have := hk.2; omega)⟩
/-- The kept ones among the first m, with other slots. -/
def keptI (f : AFunc) (keep : List Bool) (to : List Int) : Nat → List AInstr
  | 0 => []
  | m + 1 => keptI f keep to m ++ (if atD keep m = true then [renI (atD f.Code m) to] else [])
theorem keptI_length (keep : List Bool) (to : List Int) : ∀ m, ((keptI f keep to m).length : Int) = cntK keep m
  | 0 => rfl
  | m + 1 => by
    have := keptI_length keep to m
    unfold keptI cntK
    rw [List.length_append]
    split <;> simp <;> omega
theorem mem_keptI {keep : List Bool} {to : List Int} {x : AInstr} : ∀ {m : Nat}, x ∈ keptI f keep to m → ∃ k, inN k m ∧ x = renI (atD f.Code k) to
  | 0, h => by cases h
  | m + 1, h => by
    unfold keptI at h
    rcases List.mem_append.1 h with h | h
    · obtain ⟨k, ⟨h1, h2⟩, h3⟩ := mem_keptI h
      exact ⟨k, ⟨h1, by omega⟩, h3⟩
    · split at h
      · exact ⟨m, ⟨by omega, by omega⟩, one_mem h⟩
      · cases h
theorem codeOf_kept (keep : List Bool) (nums pl : List Int) : ∀ m, codeOf f keep nums pl m = (keptI f keep nums m).map fun x => retI x pl
  | 0 => rfl
  | m + 1 => by
    unfold codeOf keptI
    rw [codeOf_kept keep nums pl m, List.map_append]
    split <;> rfl
def flatU (l : List AInstr) : List Int := l.flatMap fun x => useS x ++ defS x
theorem flatU_kept (r : ARename) : ∀ m, flatU (keptI f r.Keep r.To m) = rawU f r m
  | 0 => rfl
  | m + 1 => by
    unfold keptI rawU
    rw [← flatU_kept r m]
    unfold flatU
    rw [List.flatMap_append]
    split <;> simp
theorem rawU_min (r : ARename) {a : Nat} (ha : r.Keep.length ≤ a) : ∀ {m : Nat}, a ≤ m → rawU f r m = rawU f r a
  | 0, h => by rw [Nat.le_zero.1 h]
  | m + 1, h => by
    rcases Nat.lt_or_ge a (m + 1) with h1 | h1
    · rw [rawU, rawU_min r ha (m := m) (by omega), atD_out (by omega)]
      simp
    · rw [show a = m + 1 by omega]
theorem usedS_eq (f : AFunc) (r : ARename) : setOf (rawU f r f.Code.length) = usedS f r := by
  unfold usedS
  by_cases h : f.Code.length ≤ r.Keep.length
  · rw [Nat.min_eq_left h]
  · rw [Nat.min_eq_right (by omega), rawU_min r (Nat.le_refl _) (by omega)]
theorem rwkept_sp (f : AFunc) (r : ARename) (to : List Int) (hc : f.Code.length ≤ 1000000) : WP (rewrite_kept f r to) (· = keptI f r.Keep to f.Code.length) := by
  unfold rewrite_kept
  refine WP.loop (fun j => ∃ m : Nat, j.1 = m ∧ m ≤ f.Code.length ∧ j.2 = keptI f r.Keep to m) (fun j => f.Code.length - j.1.toNat) ⟨0, rfl, by omega, rfl⟩ ?_
  rintro again ⟨k, l⟩ ⟨m, b1, b2, b3⟩ ih
  dsimp only at b1 b3 ih ⊢
  subst b1
  have hl := keptI_length (f := f) r.Keep to m
  have hb := cntK_bd r.Keep m
  rw [← b3] at hl
  refine WP.bif (fun wh => ?_) (fun wh => ?_) <;> (try simp only [decide_eq_true_eq, decide_eq_false_iff_not, Bool.not_eq_true', Bool.not_eq_false', Bool.and_eq_true, Bool.or_eq_true, Bool.not_eq_true, Bool.not_eq_false, Int.not_lt, Int.not_le, ne_eq] at wh)
  · have hml := wh
    have hno : atD r.Keep m = false → WP (M.chk (okI ((m : Int) + 1)) (again ((m : Int) + 1, l))) (· = keptI f r.Keep to f.Code.length) := fun hk => by
      refine WP.chk ⟨by omega, by omega⟩ fun _ => ?_
      refine ih _ ⟨m + 1, by simp, by omega, ?_⟩ (by dsimp only; omega)
      dsimp only
      rw [keptI, hk, b3]
      simp
    refine WP.chk ⟨by omega, wh⟩ fun _ => ?_
    refine WP.bif (fun wh => ?_) (fun wh => ?_) <;> (try simp only [decide_eq_true_eq, decide_eq_false_iff_not, Bool.not_eq_true', Bool.not_eq_false', Bool.and_eq_true, Bool.or_eq_true, Bool.not_eq_true, Bool.not_eq_false, Int.not_lt, Int.not_le, ne_eq] at wh)
    · refine WP.chk ⟨by omega, wh⟩ fun _ => ?_
      refine WP.bif (fun wh => ?_) (fun wh => hno wh)
      have hk := wh
      refine WP.call (eRenamed_sp _ _) ?_
      rintro _ rfl
      refine WP.chk (by simp only [List.length_singleton]; omega) fun _ => ?_
      refine WP.chk ⟨by omega, by omega⟩ fun _ => ?_
      refine ih _ ⟨m + 1, by simp, by omega, ?_⟩ (by dsimp only; omega)
      dsimp only
      rw [keptI, if_pos hk, b3]
    · exact hno (atD_out (by omega))
  · exact WP.ret (by rw [b3, show m = f.Code.length by omega])
theorem rwused_sp (f : AFunc) (r : ARename) (hc : f.Code.length ≤ 1000000) : WP (rewrite_Used f r) (· = usedS f r) := by
  unfold rewrite_Used
  refine WP.call (rwkept_sp f r _ hc) fun K hK => ?_
  have hKl := keptI_length (f := f) r.Keep r.To f.Code.length
  have hKb := cntK_bd r.Keep f.Code.length
  have hfl := flatU_kept (f := f) r f.Code.length
  rw [← hK] at hKl hfl
  refine WP.loop (fun j => (0 ≤ j.1 ∧ j.1 ≤ K.length) ∧ j.2 = flatU (K.take j.1.toNat) ∧ (j.2.length : Int) ≤ 2 * j.1) (fun j => K.length - j.1.toNat) ⟨⟨by simp, by simp⟩, rfl, by simp⟩ ?_
  rintro again ⟨k, l⟩ ⟨⟨a1, a2⟩, a3, a4⟩ ih
  dsimp only at a1 a2 a3 a4 ih ⊢
  refine WP.bif (fun wh => ?_) (fun wh => ?_) <;> (try simp only [decide_eq_true_eq, decide_eq_false_iff_not, Bool.not_eq_true', Bool.not_eq_false', Bool.and_eq_true, Bool.or_eq_true, Bool.not_eq_true, Bool.not_eq_false, Int.not_lt, Int.not_le, ne_eq] at wh)
  · have hkl := wh
    have hst : flatU (K.take (k + 1).toNat) = l ++ (useS (atD K k) ++ defS (atD K k)) := by
      rw [take_atD ⟨a1, hkl⟩, a3]
      unfold flatU
      rw [List.flatMap_append]
      simp
    generalize atD K k = x at *
    have hux : (useS x).length ≤ 1 := by unfold useS; split <;> simp
    refine WP.chk ⟨a1, wh⟩ fun _ => ?_
    refine WP.call (euses_sp _) ?_
    rintro _ rfl
    refine WP.chk (by omega) fun _ => ?_
    refine WP.call (edefines_sp _) ?_
    rintro _ rfl
    cases hrem : remB x with
    | true =>
      refine WP.bif (fun _ => ?_) (fun q => by cases q)
      refine WP.chk (by simp only [List.length_append, List.length_singleton]; omega) fun _ => ?_
      refine WP.chk ⟨by omega, by omega⟩ fun _ => ?_
      refine ih _ ⟨⟨by dsimp only; omega, by dsimp only; omega⟩, ?_, by simp only [List.length_append, List.length_singleton]; omega⟩ (by dsimp only; omega)
      dsimp only
      rw [hst]
      unfold defS
      rw [if_pos hrem]
      simp
    | false =>
      refine WP.bif (fun q => by cases q) (fun _ => ?_)
      refine WP.chk ⟨by omega, by omega⟩ fun _ => ?_
      refine ih _ ⟨⟨by dsimp only; omega, by dsimp only; omega⟩, ?_, by simp only [List.length_append]; omega⟩ (by dsimp only; omega)
      dsimp only
      rw [hst]
      unfold defS
      rw [hrem]
      simp
  · rw [take_all (by omega), hfl] at a3
    unfold bitset_Of
    refine WP.call (R := (· = setOf l)) (WP.ret rfl) fun x hx => ?_
    rw [hx, a3, usedS_eq]
    exact WP.ret rfl
theorem index_sp (s : List Int) (v : Int) (hs : s.length ≤ 1000000) : WP (slices_Index___int_int_ s v) fun r => v ∈ s → inN r s.length ∧ atD s r = v := by
  unfold slices_Index___int_int_
  refine WP.loop (fun j => (0 ≤ j ∧ j ≤ s.length) ∧ ∀ t, 0 ≤ t → t < j → atD s t ≠ v) (fun j => s.length - j.toNat) ⟨⟨by omega, by omega⟩, fun t h1 h2 => by exfalso; omega⟩ ?_
  rintro again k ⟨⟨a1, a2⟩, a3⟩ ih
  refine WP.bif (fun wh => ?_) (fun wh => ?_) <;> (try simp only [decide_eq_true_eq, decide_eq_false_iff_not, Bool.not_eq_true', Bool.not_eq_false', Bool.and_eq_true, Bool.or_eq_true, Bool.not_eq_true, Bool.not_eq_false, Int.not_lt, Int.not_le, ne_eq] at wh)
  · have hkl := wh
    refine WP.chk ⟨a1, wh⟩ fun _ => ?_
    refine WP.bif (fun wh => ?_) (fun wh => ?_) <;> (try simp only [decide_eq_true_eq, decide_eq_false_iff_not, Bool.not_eq_true', Bool.not_eq_false', Bool.and_eq_true, Bool.or_eq_true, Bool.not_eq_true, Bool.not_eq_false, Int.not_lt, Int.not_le, ne_eq] at wh)
    · exact WP.ret fun _ => ⟨⟨a1, hkl⟩, wh.symm⟩
    · refine WP.chk ⟨by omega, by omega⟩ fun _ => ?_
      refine ih _ ⟨⟨by omega, by omega⟩, fun t h1 h2 => ?_⟩ (by omega)
      by_cases ht : t = k
      · rw [ht]; exact fun q => wh q.symm
      · exact a3 t h1 (by omega)
  · refine WP.ret fun hm => ?_
    obtain ⟨t, h1, h2, h3⟩ := mem_atD hm
    exact (a3 t h1 (by omega) h3).elim
theorem rwapply_sp (hf : WfF n i par f) (r : ARename) : WP (rewrite_Apply f r) fun x => (ValidP f r.To ∧ KeepP f r.Keep → x.2 = 0 ∧ AppP f r x.1) ∧ (¬ (ValidP f r.To ∧ KeepP f r.Keep) → x = (⟨0, [], []⟩, 12)) := by
  have hc := hf.code
  have hsl := hf.slots
  unfold rewrite_Apply
  refine WP.call (rwcheck_sp hf r) fun e ⟨he1, he2⟩ => ?_
  by_cases hvk : ValidP f r.To ∧ KeepP f r.Keep
  case neg =>
    rw [he2 hvk]
    exact WP.bif (fun _ => WP.ret ⟨fun q => (hvk q).elim, fun _ => rfl⟩) (fun wh => by simp at wh)
  rw [he1 hvk]
  refine WP.bif (fun wh => by simp at wh) (fun _ => ?_)
  obtain ⟨hv, hk⟩ := hvk
  refine WP.mono (Q := fun x => x.2 = 0 ∧ AppP f r x.1) ?_ fun x hx => ⟨fun _ => hx, fun q => (q ⟨hv, hk⟩).elim⟩
  have hto := hv.1
  have hkl := hk.1
  refine WP.call (rwused_sp f r (by omega)) ?_
  rintro _ rfl
  have hU := usedS_U hf hv hk
  generalize hu : usedS f r = u at *
  have hul := asc_short hU.set hU.lt
  refine WP.loop (fun j => (0 ≤ j.1 ∧ j.1 ≤ u.length) ∧ j.2 = (u.take j.1.toNat).map (slotOf f r.To)) (fun j => u.length - j.1.toNat) ⟨⟨by simp, by simp⟩, rfl⟩ ?_
  rintro again1 ⟨t, sl⟩ ⟨⟨a1, a2⟩, a3⟩ ih1
  dsimp only at a1 a2 a3 ih1 ⊢
  have hsll : sl.length = t.toNat := by rw [a3, List.length_map, List.length_take]; omega
  refine WP.bif (fun wh => ?_) (fun wh => ?_) <;> (try simp only [decide_eq_true_eq, decide_eq_false_iff_not, Bool.not_eq_true', Bool.not_eq_false', Bool.and_eq_true, Bool.or_eq_true, Bool.not_eq_true, Bool.not_eq_false, Int.not_lt, Int.not_le, ne_eq] at wh)
  · have htl := wh
    have hut := hU.lt _ (atD_mem ⟨a1, wh⟩)
    refine WP.chk ⟨a1, wh⟩ fun _ => ?_
    refine WP.chk hut fun _ => ?_
    refine WP.call (cmembers_sp _ _ (by omega)) ?_
    rintro _ rfl
    have hml := membS_length r.To (atD u t)
    generalize hmm : membS r.To (atD u t) = mm at *
    refine WP.loop (fun j => (0 ≤ j.1 ∧ j.1 ≤ mm.length) ∧ j.2 = ⟨(atD f.Slots (atD u t)).Size, (mm.take j.1.toNat).foldl (fun a t => max a (atD f.Slots t).Align) (atD f.Slots (atD u t)).Align⟩) (fun j => mm.length - j.1.toNat) ⟨⟨by simp, by simp⟩, rfl⟩ ?_
    rintro again2 ⟨q, x⟩ ⟨⟨b1, b2⟩, b3⟩ ih2
    dsimp only at b1 b2 b3 ih2 ⊢
    refine WP.bif (fun wh => ?_) (fun wh => ?_) <;> (try simp only [decide_eq_true_eq, decide_eq_false_iff_not, Bool.not_eq_true', Bool.not_eq_false', Bool.and_eq_true, Bool.or_eq_true, Bool.not_eq_true, Bool.not_eq_false, Int.not_lt, Int.not_le, ne_eq] at wh)
    · have hql := wh
      have hmi := (mem_membS.1 (by rw [hmm]; exact atD_mem ⟨b1, wh⟩ : atD mm q ∈ membS r.To (atD u t))).1
      rw [hto] at hmi
      refine WP.chk ⟨b1, wh⟩ fun _ => ?_
      refine WP.chk hmi fun _ => ?_
      refine WP.chk ⟨by omega, by omega⟩ fun _ => ?_
      refine ih2 _ ⟨⟨by dsimp only; omega, by dsimp only; omega⟩, ?_⟩ (by dsimp only; omega)
      dsimp only
      rw [take_atD ⟨b1, hql⟩, List.foldl_append, b3]
      rfl
    · refine WP.chk (by simp only [List.length_singleton]; omega) fun _ => ?_
      refine WP.chk ⟨by omega, by omega⟩ fun _ => ?_
      refine ih1 _ ⟨⟨by dsimp only; omega, by dsimp only; omega⟩, ?_⟩ (by dsimp only; omega)
      dsimp only
      rw [take_all (by omega)] at b3
      rw [take_atD ⟨a1, htl⟩, List.map_append, ← a3, b3]
      simp [slotOf, hmm]
  · rw [take_all (by omega)] at a3
    refine WP.call (clone_sp r.To (by omega)) ?_
    intro x hx
    rw [hx]
    clear hx x
    refine WP.loop (fun j => (0 ≤ j.1 ∧ j.1 ≤ r.To.length) ∧ j.2.length = r.To.length ∧ (∀ s, 0 ≤ s → s < j.1 → atD r.To s ∈ u → inN (atD j.2 s) u.length ∧ atD u (atD j.2 s) = atD r.To s) ∧ ∀ s, j.1 ≤ s → s < r.To.length → atD j.2 s = atD r.To s) (fun j => r.To.length - j.1.toNat) ⟨⟨by simp, by simp⟩, rfl, fun s h1 h2 => by exfalso; dsimp only at h2; omega, fun _ _ _ => rfl⟩ ?_
    rintro again3 ⟨s, to⟩ ⟨⟨b1, b2⟩, b3, b4, b5⟩ ih3
    dsimp only at b1 b2 b3 b4 b5 ih3 ⊢
    refine WP.bif (fun wh => ?_) (fun wh => ?_) <;> (try simp only [decide_eq_true_eq, decide_eq_false_iff_not, Bool.not_eq_true', Bool.not_eq_false', Bool.and_eq_true, Bool.or_eq_true, Bool.not_eq_true, Bool.not_eq_false, Int.not_lt, Int.not_le, ne_eq] at wh)
    · have hsl2 := wh
      refine WP.chk ⟨b1, by omega⟩ fun _ => ?_
      rw [b5 s (Int.le_refl _) hsl2]
      refine WP.call (index_sp u (atD r.To s) (by omega)) fun x9 h9 => ?_
      refine WP.chk ⟨b1, by omega⟩ fun _ => ?_
      refine WP.chk ⟨by omega, by omega⟩ fun _ => ?_
      refine ih3 _ ⟨⟨by dsimp only; omega, by dsimp only; omega⟩, by dsimp only; rw [length_setD, b3], fun t h1 h2 h3 => ?_, fun t h1 h2 => ?_⟩ (by dsimp only; omega)
      · dsimp only at h2 ⊢
        rw [atD_setD ⟨b1, by omega⟩ h1]
        split
        · rename_i hts; subst hts; exact h9 h3
        · exact b4 t h1 (by omega) h3
      · dsimp only at h1 ⊢
        rw [atD_setD ⟨b1, by omega⟩ (by omega), if_neg (by omega)]
        exact b5 t (by omega) h2
    · have hN : NumP r.To u to := ⟨b3, fun s hs => b4 s hs.1 (by have := hs.2; omega)⟩
      refine WP.call (rwplaces_sp r (by omega)) ?_
      rintro _ rfl
      have hpll := plL_len r.Keep
      generalize hpl : plL r.Keep = pl at *
      refine WP.call (rwkept_sp f r to (by omega)) fun K hK => ?_
      have hKl := keptI_length (f := f) r.Keep to f.Code.length
      rw [← hK] at hKl
      have hKb := cntK_bd r.Keep f.Code.length
      have hKj : ∀ t, inN t K.length → ((atD K t).Op = 20 → inN (atD K t).A f.Code.length) ∧ ((atD K t).Op = 21 → inN (atD K t).B f.Code.length) := fun t ht => by
        have hm := atD_mem ht
        rw [hK] at hm
        obtain ⟨k, hk1, hk2⟩ := mem_keptI hm
        rw [← hK] at hk2
        rw [hk2, renI_op]
        obtain ⟨j1, j2⟩ := jump_in hf hk1
        exact ⟨fun h => by rw [renI_jump _ _ (.inl h)]; exact j1 h, fun h => by rw [renI_jump _ _ (.inr h)]; exact j2 h⟩
      refine WP.loop (fun j => (0 ≤ j.1 ∧ j.1 ≤ K.length) ∧ j.2.length = K.length ∧ (∀ t, 0 ≤ t → t < j.1 → atD j.2 t = retI (atD K t) pl) ∧ ∀ t, j.1 ≤ t → t < K.length → atD j.2 t = atD K t) (fun j => K.length - j.1.toNat) ⟨⟨by simp, by simp⟩, rfl, fun s h1 h2 => by exfalso; dsimp only at h2; omega, fun _ _ _ => rfl⟩ ?_
      rintro again4 ⟨t, C⟩ ⟨⟨d1, d2⟩, d3, d4, d5⟩ ih4
      dsimp only at d1 d2 d3 d4 d5 ih4 ⊢
      refine WP.bif (fun wh => ?_) (fun wh => ?_) <;> (try simp only [decide_eq_true_eq, decide_eq_false_iff_not, Bool.not_eq_true', Bool.not_eq_false', Bool.and_eq_true, Bool.or_eq_true, Bool.not_eq_true, Bool.not_eq_false, Int.not_lt, Int.not_le, ne_eq] at wh)
      · have htl2 := wh
        refine WP.chk ⟨d1, by omega⟩ fun _ => ?_
        rw [d5 t (Int.le_refl _) htl2]
        obtain ⟨j1, j2⟩ := hKj t ⟨d1, htl2⟩
        have hset : ∀ v, v = retI (atD K t) pl → WP (M.chk (okI (t + 1)) (again4 (t + 1, setD C t v))) fun x => x.2 = 0 ∧ AppP f r x.1 := fun v hv => by
          refine WP.chk ⟨by omega, by omega⟩ fun _ => ?_
          refine ih4 _ ⟨⟨by dsimp only; omega, by dsimp only; omega⟩, by dsimp only; rw [length_setD, d3], fun q h1 h2 => ?_, fun q h1 h2 => ?_⟩ (by dsimp only; omega)
          · dsimp only at h2 ⊢
            rw [atD_setD ⟨d1, by omega⟩ h1]
            split
            · rename_i hqt; rw [hqt, hv]
            · exact d4 q h1 (by omega)
          · dsimp only at h1 ⊢
            rw [atD_setD ⟨d1, by omega⟩ (by omega), if_neg (by omega)]
            exact d5 q (by omega) h2
        refine WP.bif (fun wh => ?_) (fun wh => ?_) <;> (try simp only [decide_eq_true_eq, decide_eq_false_iff_not, Bool.not_eq_true', Bool.not_eq_false', Bool.and_eq_true, Bool.or_eq_true, Bool.not_eq_true, Bool.not_eq_false, Int.not_lt, Int.not_le, ne_eq] at wh)
        · have h20 := wh
          obtain ⟨q1, q2⟩ := j1 h20
          refine WP.chk ⟨q1, by omega⟩ fun _ => ?_
          exact hset _ (by unfold retI; rw [if_pos h20])
        have h20 := wh
        refine WP.bif (fun wh => ?_) (fun wh => ?_) <;> (try simp only [decide_eq_true_eq, decide_eq_false_iff_not, Bool.not_eq_true', Bool.not_eq_false', Bool.and_eq_true, Bool.or_eq_true, Bool.not_eq_true, Bool.not_eq_false, Int.not_lt, Int.not_le, ne_eq] at wh)
        · have h21 := wh
          obtain ⟨q1, q2⟩ := j2 h21
          refine WP.chk ⟨q1, by omega⟩ fun _ => ?_
          exact hset _ (by unfold retI; rw [if_neg h20, if_pos h21])
        · have h21 := wh
          refine WP.chk ⟨by omega, by omega⟩ fun _ => ?_
          refine ih4 _ ⟨⟨by dsimp only; omega, by dsimp only; omega⟩, d3, fun q h1 h2 => ?_, fun q h1 h2 => d5 q (by dsimp only at h1; omega) h2⟩ (by dsimp only; omega)
          dsimp only at h2 ⊢
          by_cases hqt : q = t
          · rw [hqt, d5 t (Int.le_refl _) htl2]
            unfold retI
            rw [if_neg h20, if_neg h21]
          · exact d4 q h1 (by omega)
      · refine WP.ret ⟨rfl, to, by rw [hu]; exact hN, ?_⟩
        have hC : C = codeOf f r.Keep to pl f.Code.length := by
          rw [codeOf_kept, ← hK]
          refine atD_ext (by rw [List.length_map, d3]) fun k hk => ?_
          obtain ⟨k1, k2⟩ := hk
          rw [d4 k k1 (by omega)]
          have h3 : k.toNat < (K.map fun x => retI x pl).length := by rw [List.length_map]; omega
          have h4 := atD_nat h3
          rw [Int.toNat_of_nonneg k1] at h4
          rw [h4, List.getElem_map]
          have h5 := atD_nat (l := K) (i := k.toNat) (by omega)
          rw [Int.toNat_of_nonneg k1] at h5
          rw [h5]
        unfold appF
        rw [hu, hpl, ← a3, hC]
end
/-! ### The laws' own functions -/
theorem awake21_sp : WP law21_awake (· = true) := by
  unfold law21_awake
  refine WP.call (rwplaces_sp _ (by simp)) ?_
  rintro _ rfl
  refine WP.bif (fun _ => ?_) (fun wh => by exfalso; revert wh; decide)
  refine WP.chk ⟨by decide, by decide⟩ fun _ => ?_
  exact WP.ret (by decide)
theorem scene21_sp (cs : List Int) (h : isU8 cs) : WP (law21_scene cs) fun r => WfP r.1 ∧ inN r.2.1 r.1.Funcs.length ∧ r.2.2.1.To.length = (atD r.1.Funcs r.2.1).Slots.length ∧ r.2.2.1.Keep.length = (atD r.1.Funcs r.2.1).Code.length := by
  unfold law21_scene
  refine WP.call (new_sp cs 250 h (by omega)) fun x1 h1 => ?_
  refine WP.call (program_sp x1 3 16 h1 (by omega) (by omega)) fun x2 ⟨h2, h3, h4⟩ => ?_
  have h5 := h3.len
  refine WP.call (next_sp _ _ h2 (by omega)) fun x3 ⟨h6, h7, h8, _⟩ => ?_
  have h9 := h8 (by omega)
  refine WP.call (rename_sp h3 ⟨h7, h9⟩ _ h6) fun x4 ⟨b1, b2, b3⟩ => ?_
  exact WP.ret ⟨h3, ⟨h7, h9⟩, b2, b3⟩
end Go.Proofs.YtlhaoijkffhafaaGreatDoor.Q
