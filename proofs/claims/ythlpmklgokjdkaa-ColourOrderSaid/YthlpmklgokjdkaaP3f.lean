/- The smallest place that fits: what extent.Fit and its reference compute; the laws ExtentFit and ExtentFitIsLeast. -/
import Derived.Test.YthlpmklgokjdkaaP3
import Derived.Sort.AssemblyPlain
set_option linter.unusedVariables false
set_option linter.unusedSimpArgs false
namespace Go.Proofs.Ythlpmklgokjdkaa.Q
/-- Bytes x .. x + n meet those of an interval. -/
def meetB (a : AInterval) (x n : Int) : Bool := decide (max a.Off x < min (a.Off + a.Size) (x + n))
/-- A place for n bytes, from k on. -/
structure FreeAt (l : List AInterval) (k n al x : Int) : Prop where
  dvd : al ∣ x
  ge : k ≤ x
  out : ∀ a ∈ l, meetB a x n = false
def scanF (n al : Int) : List AInterval → Int → Int
  | [], x => x
  | a :: r, x => scanF n al r (if meetB a x n = true then upZ (a.Off + a.Size) al else x)
theorem scanF_least {n al k : Int} (ha : 1 ≤ al) : ∀ {l d : List AInterval} {x : Int}, l.Pairwise (fun a b => a.Off ≤ b.Off) → (∀ a ∈ d, ∀ b ∈ l, a.Off ≤ b.Off) → FreeAt d k n al x → (∀ z, FreeAt (d ++ l) k n al z → x ≤ z) →
    FreeAt (d ++ l) k n al (scanF n al l x) ∧ ∀ z, FreeAt (d ++ l) k n al z → scanF n al l x ≤ z
  | [], d, x, _, _, h1, h2 => by rw [List.append_nil] at h2 ⊢; exact ⟨h1, h2⟩
  | a :: r, d, x, hp, hd, h1, h2 => by
    unfold scanF
    have hpr := List.pairwise_cons.1 hp
    have e : d ++ a :: r = (d ++ [a]) ++ r := by simp
    rw [e] at h2 ⊢
    refine scanF_least ha hpr.2 ?_ ?_ ?_
    · intro b hb c hc
      rcases List.mem_append.1 hb with hb | hb
      · exact hd b hb c (List.mem_cons_of_mem _ hc)
      · rw [List.mem_singleton] at hb; subst hb; exact hpr.1 c hc
    · by_cases hm : meetB a x n = true
      · rw [if_pos hm]
        have hm' : max a.Off x < min (a.Off + a.Size) (x + n) := by simpa [meetB] using hm
        have hu := upZ_le (n := a.Off + a.Size) ha
        have := h1.ge
        refine ⟨upZ_dvd _ _, by omega, fun b hb => ?_⟩
        rcases List.mem_append.1 hb with hb | hb
        · have h3 := h1.out b hb
          have h4 := hd b hb a (List.mem_cons_self ..)
          simp only [meetB, decide_eq_false_iff_not] at h3 ⊢
          omega
        · rw [List.mem_singleton] at hb; subst hb
          simp only [meetB, decide_eq_false_iff_not]
          omega
      · rw [if_neg hm]
        refine ⟨h1.dvd, h1.ge, fun b hb => ?_⟩
        rcases List.mem_append.1 hb with hb | hb
        · exact h1.out b hb
        · rw [List.mem_singleton] at hb; subst hb; simpa using hm
    · intro z hz
      have h3 := h2 z hz
      split
      · rename_i hm
        have hm' : max a.Off x < min (a.Off + a.Size) (x + n) := by simpa [meetB] using hm
        refine upZ_least ha hz.dvd ?_
        have h4 := hz.out a (by simp)
        simp only [meetB, decide_eq_false_iff_not] at h4
        omega
      · exact h3
/-- Where the scan stands is the first place, rounded up, or the end of an interval, rounded up. -/
theorem scanF_cand {n al : Int} : ∀ {l : List AInterval} {x : Int}, scanF n al l x = x ∨ ∃ a ∈ l, scanF n al l x = upZ (a.Off + a.Size) al
  | [], x => .inl rfl
  | a :: r, x => by
    unfold scanF
    rcases scanF_cand (n := n) (al := al) (l := r) (x := if meetB a x n = true then upZ (a.Off + a.Size) al else x) with h | ⟨b, h1, h2⟩
    · by_cases hm : meetB a x n = true
      · rw [if_pos hm] at h ⊢; exact .inr ⟨a, List.mem_cons_self .., h⟩
      · rw [if_neg hm] at h ⊢; exact .inl h
    · exact .inr ⟨b, List.mem_cons_of_mem _ h1, h2⟩
theorem FreeAt.perm {l l' : List AInterval} {k n al x : Int} (h : FreeAt l k n al x) (hp : ∀ a, a ∈ l' → a ∈ l) : FreeAt l' k n al x := ⟨h.dvd, h.ge, fun a ha => h.out a (hp a ha)⟩

/-! ### The sort -/
def cfOff' (x y : AInterval) : Int := Go.Lib.compareInt x.Off y.Off
theorem ltOff' (x y : AInterval) : Go.Proofs.ltOf cfOff' x y = decide (x.Off < y.Off) := by
  unfold Go.Proofs.ltOf cfOff' Go.Lib.compareInt
  by_cases h1 : x.Off < y.Off
  · simp [h1]
  · by_cases h2 : y.Off < x.Off <;> simp [h1, h2]
theorem swoOff' : Go.Sort.SWO (Go.Proofs.ltOf cfOff') where
  irrefl x := by rw [ltOff']; simp
  trans x y z h1 h2 := by rw [ltOff'] at *; simp at *; omega
  ntrans x y z h1 h2 := by rw [ltOff'] at *; simp at *; omega
theorem sort_sp (l : List AInterval) : (sort_extent_Fit_2 l).Perm l ∧ (sort_extent_Fit_2 l).Pairwise (fun a b => a.Off ≤ b.Off) := by
  have h := Go.Sort.pdq_sorts (Go.Proofs.ltOf cfOff') swoOff' l.toArray 0 l.length (Go.Lib.bitLen l.length) true true (Nat.zero_le _) (by simp) (Or.inl rfl)
  have hs : sort_extent_Fit_2 l = (Go.Sort.pdq (Go.Proofs.ltOf cfOff') l.toArray 0 l.length (Go.Lib.bitLen l.length) true true).toList := by unfold sort_extent_Fit_2; rfl
  rw [hs]
  generalize Go.Sort.pdq (Go.Proofs.ltOf cfOff') l.toArray 0 l.length (Go.Lib.bitLen l.length) true true = d at h
  obtain ⟨⟨h1, _, h2⟩, h3⟩ := h
  have h1' : d.size = l.length := by simpa using h1
  have e1 : d.extract 0 l.length = d := by rw [← h1']; simp
  have e2 : l.toArray.extract 0 l.length = l.toArray := by simp
  rw [e1, e2] at h2
  refine ⟨by simpa using h2, List.pairwise_iff_getElem.2 fun i j hi hj hij => ?_⟩
  have h4 := h3 i j (Nat.zero_le _) hij (by simpa [h1'] using hj)
  rw [ltOff'] at h4
  have hi' : i < d.size := by simpa using hi
  have hj' : j < d.size := by simpa using hj
  rw [getElem!_pos d j hj', getElem!_pos d i hi'] at h4
  simp only [decide_eq_false_iff_not, Int.not_lt] at h4
  simpa using h4

/-! ### The smallest place -/
def rightB (a : AInterval) : Bool := boundB a.Off && boundB a.Size && decide (a.Off + a.Size ≤ 2147483647)
theorem rightB_iff (a : AInterval) : rightB a = true ↔ 0 ≤ a.Off ∧ 0 ≤ a.Size ∧ a.Off + a.Size ≤ 2147483647 := by
  unfold rightB
  simp only [Bool.and_eq_true, boundB_iff, decide_eq_true_eq]
  omega
/-- What Fit answers, all being right. -/
def FitP (l : List AInterval) (k n al : Int) (r : Int × Int) : Prop :=
  (∃ z, FreeAt l k n al z ∧ z + n ≤ 2147483647 ∧ (∀ y, FreeAt l k n al y → z ≤ y) ∧ r = (z, 0)) ∨ ((∀ y, FreeAt l k n al y → 2147483647 < y + n) ∧ r = (0, 9))
theorem FitP.unique {l : List AInterval} {k n al : Int} {r r' : Int × Int} (h : FitP l k n al r) (h' : FitP l k n al r') : r = r' := by
  rcases h with ⟨z, h1, h2, h3, rfl⟩ | ⟨h1, rfl⟩ <;> rcases h' with ⟨z', h1', h2', h3', rfl⟩ | ⟨h1', rfl⟩
  · have := h3 z' h1'; have := h3' z h1
    rw [show z = z' by omega]
  · have := h1' z h1; omega
  · have := h1 z' h1'; omega
  · rfl
def badArgs (l : List AInterval) (k n al : Int) : Bool := !boundB k || !boundB n || !powB al || l.any (fun a => !rightB a)
def FitR (l : List AInterval) (k n al : Int) (r : Int × Int) : Prop := (badArgs l k n al = true ∧ r = (0, 4)) ∨ (badArgs l k n al = false ∧ FitP l k n al r)
theorem FitR.unique {l : List AInterval} {k n al : Int} {r r' : Int × Int} (h : FitR l k n al r) (h' : FitR l k n al r') : r = r' := by
  rcases h with ⟨h1, rfl⟩ | ⟨h1, h2⟩ <;> rcases h' with ⟨h1', rfl⟩ | ⟨h1', h2'⟩
  · rfl
  · rw [h1] at h1'; cases h1'
  · rw [h1] at h1'; cases h1'
  · exact h2.unique h2'
theorem least_ex {l : List AInterval} {k n al : Int} (ha : 1 ≤ al) : ∃ z, FreeAt l k n al z ∧ (∀ y, FreeAt l k n al y → z ≤ y) ∧ (z = upZ k al ∨ ∃ a ∈ l, z = upZ (max k (a.Off + a.Size)) al) := by
  obtain ⟨hp, hs⟩ := sort_sp l
  have h0 : FreeAt ([] : List AInterval) k n al (upZ k al) := ⟨upZ_dvd _ _, upZ_le ha, by simp⟩
  obtain ⟨h1, h2⟩ := scanF_least (n := n) (k := k) ha (d := []) hs (by simp) h0 (fun z hz => upZ_least ha hz.dvd hz.ge)
  rw [List.nil_append] at h1 h2
  have h3 : FreeAt l k n al (scanF n al (sort_extent_Fit_2 l) (upZ k al)) := h1.perm fun a h => hp.mem_iff.2 h
  have h4 : ∀ y, FreeAt l k n al y → scanF n al (sort_extent_Fit_2 l) (upZ k al) ≤ y := fun y hy => h2 y (hy.perm fun a h => hp.mem_iff.1 h)
  refine ⟨_, h3, h4, ?_⟩
  rcases scanF_cand (n := n) (al := al) (l := sort_extent_Fit_2 l) (x := upZ k al) with h | ⟨a, ha1, h⟩
  · exact .inl h
  · by_cases hka : k ≤ a.Off + a.Size
    · exact .inr ⟨a, hp.mem_iff.1 ha1, by rw [h, show max k (a.Off + a.Size) = a.Off + a.Size by omega]⟩
    · left
      have h5 := h3.ge
      have h6 : upZ k al ≤ scanF n al (sort_extent_Fit_2 l) (upZ k al) := upZ_least ha h3.dvd h5
      have h7 : upZ (a.Off + a.Size) al ≤ upZ k al := upZ_least ha (upZ_dvd _ _) (by have := upZ_le (n := k) ha; omega)
      omega

/-! ### The program's functions -/
theorem eright_sp (a : AInterval) : WP (extent_right a) (· = rightB a) := by
  unfold extent_right rightB
  refine WP.call (ebound_sp _) ?_
  rintro _ rfl
  refine WP.bif (fun wh => ?_) (fun wh => ?_)
  · rw [wh]
    have h1 := (boundB_iff _).1 wh
    refine WP.call (ebound_sp _) ?_
    rintro _ rfl
    refine WP.bif (fun wh => ?_) (fun wh => ?_)
    · rw [wh]
      have h2 := (boundB_iff _).1 wh
      refine WP.chk ⟨by omega, by omega⟩ fun _ => ?_
      exact WP.ret rfl
    · rw [wh]; exact WP.ret rfl
  · rw [wh]; exact WP.ret rfl
theorem index_sp (l : List AInterval) (hl : l.length < 1000000000000) : WP (slices_IndexFunc___api_Interval_api_Interval__of_extent_Fit_1 l) fun i => (0 ≤ i ↔ l.any (fun a => !rightB a) = true) := by
  unfold slices_IndexFunc___api_Interval_api_Interval__of_extent_Fit_1
  refine WP.loop (fun j => 0 ≤ j ∧ j ≤ l.length ∧ ∀ t, inN t l.length → t < j → rightB (atD l t) = true) (fun j => l.length - j.toNat) ⟨by omega, by omega, fun t ht h => by have := ht.1; omega⟩ ?_
  rintro again k ⟨a1, a2, a3⟩ ih
  refine WP.bif (fun wh => ?_) (fun wh => ?_) <;> (try simp only [wpH, ne_eq] at wh)
  · refine WP.chk ⟨a1, wh⟩ fun _ => ?_
    refine WP.call (R := (· = !rightB (atD l k))) ?_ ?_
    · unfold extent_Fit_1
      refine WP.call (eright_sp _) ?_
      rintro _ rfl
      exact WP.ret rfl
    rintro _ rfl
    have hmem : atD l k ∈ l := List.mem_of_getElem? (atD_get ⟨a1, wh⟩)
    refine WP.bif (fun hb => ?_) (fun hb => ?_)
    · exact WP.ret ⟨fun _ => List.any_eq_true.2 ⟨_, hmem, hb⟩, fun _ => a1⟩
    · refine WP.chk ⟨by omega, by omega⟩ fun _ => ?_
      refine ih _ ⟨by omega, by omega, fun t h1 h2 => ?_⟩ (by omega)
      by_cases ht : t = k
      · subst ht; simpa using hb
      · exact a3 t h1 (by omega)
  · refine WP.ret ⟨fun h => by omega, fun h => ?_⟩
    obtain ⟨a, ha, hb⟩ := List.any_eq_true.1 h
    obtain ⟨t, ht, rfl⟩ := List.mem_iff_getElem.1 ha
    have h2 := a3 t ⟨by omega, by omega⟩ (by omega)
    have h3 : atD l (t : Int) = l[t] := by unfold atD; simp [List.getD_eq_getElem?_getD, List.getElem?_eq_getElem ht]
    rw [h3] at h2
    rw [h2] at hb; cases hb
theorem meet_sp (a b : AInterval) (h1 : rightB a = true) (h2 : 0 ≤ b.Off ∧ b.Off ≤ 4611686018427387904) (h3 : 0 ≤ b.Size ∧ b.Size ≤ 2147483647) : WP (extent_meet a b) (· = meetB a b.Off b.Size) := by
  have := (rightB_iff a).1 h1
  unfold extent_meet meetB
  refine WP.chk ⟨by omega, by omega⟩ fun _ => ?_
  refine WP.chk ⟨by omega, by omega⟩ fun _ => ?_
  exact WP.ret rfl
theorem fit_sp' (l : List AInterval) (k n al : Int) (hl : l.length < 100000000000) : WP (extent_Fit l k n al) (FitR l k n al) := by
  unfold extent_Fit
  refine WP.call (ebound_sp _) ?_
  rintro _ rfl
  refine WP.bif (fun wh => WP.ret (.inl ⟨by unfold badArgs; rw [wh]; rfl, rfl⟩)) (fun wk => ?_)
  refine WP.call (ebound_sp _) ?_
  rintro _ rfl
  refine WP.bif (fun wh => WP.ret (.inl ⟨by unfold badArgs; rw [wh]; simp, rfl⟩)) (fun wn => ?_)
  refine WP.call (epower_sp _) ?_
  rintro _ rfl
  refine WP.bif (fun wh => WP.ret (.inl ⟨by unfold badArgs; rw [wh]; simp, rfl⟩)) (fun wa => ?_)
  have hk := (boundB_iff k).1 (by simpa using wk)
  have hn := (boundB_iff n).1 (by simpa using wn)
  have hpow : powB al = true := by simpa using wa
  have hal := powB_bd hpow
  refine WP.call (R := (· = l.any (fun a => !rightB a))) ?_ ?_
  · unfold slices_ContainsFunc___api_Interval_api_Interval__of_extent_Fit_1
    refine WP.call (index_sp l (by omega)) fun i hi => WP.ret ?_
    rw [Bool.eq_iff_iff, decide_eq_true_eq]; exact hi
  rintro _ rfl
  refine WP.bif (fun wh => WP.ret (.inl ⟨by unfold badArgs; rw [wh]; simp, rfl⟩)) (fun wr => ?_)
  have hbad : badArgs l k n al = false := by
    unfold badArgs
    rw [wk, wn, wa, wr]; rfl
  have hright : ∀ a ∈ l, rightB a = true := fun a ha => by
    have := List.any_eq_false.1 wr a ha
    simpa using this
  refine WP.call (R := (· = l)) ?_ ?_
  · unfold slices_Clone___api_Interval_api_Interval_
    refine WP.both l (fun h => WP.ret h.symm) (WP.chk (by simp only [List.length_nil]; omega) fun _ => WP.ret rfl) rfl
  intro l' hl'
  rw [show l' = l from hl']
  refine WP.chk (by omega) fun _ => ?_
  obtain ⟨hp, hs⟩ := sort_sp l
  have hlen : (sort_extent_Fit_2 l).length = l.length := hp.length_eq
  have hmemS : ∀ a ∈ sort_extent_Fit_2 l, rightB a = true := fun a ha => hright a (hp.mem_iff.1 ha)
  obtain ⟨z, hz1, hz2, -⟩ := least_ex (l := l) (k := k) (n := n) hal.1
  have hres : scanF n al (sort_extent_Fit_2 l) (upZ k al) = z := by
    have h0 : FreeAt ([] : List AInterval) k n al (upZ k al) := ⟨upZ_dvd _ _, upZ_le hal.1, by simp⟩
    obtain ⟨h1, h2⟩ := scanF_least (n := n) (k := k) hal.1 (d := []) hs (by simp) h0 (fun z hz => upZ_least hal.1 hz.dvd hz.ge)
    rw [List.nil_append] at h1 h2
    have h3 := hz2 _ (h1.perm fun a h => hp.mem_iff.2 h)
    have h4 := h2 z (hz1.perm fun a h => hp.mem_iff.1 h)
    omega
  generalize sort_extent_Fit_2 l = s at *
  refine WP.call (eup_sp k al hk.1 hk.2 hpow) ?_
  rintro _ rfl
  have hu1 := upZ_le (n := k) hal.1
  have hu2 := upZ_lt (n := k) hal.1
  refine WP.loop (fun j => 0 ≤ j.2 ∧ j.2 ≤ s.length ∧ 0 ≤ j.1 ∧ j.1 ≤ 2200000000 ∧ scanF n al (s.drop j.2.toNat) j.1 = z) (fun j => s.length - j.2.toNat) ⟨by simp, by simp, by dsimp only; omega, by dsimp only; omega, by simpa using hres⟩ ?_
  rintro again ⟨x, j⟩ ⟨a1, a2, a3, a4, a5⟩ ih
  dsimp only at a1 a2 a3 a4 a5 ⊢
  refine WP.bif (fun wh => ?_) (fun wh => ?_) <;> (try simp only [wpH, ne_eq] at wh)
  · refine WP.chk ⟨a1, wh⟩ fun _ => ?_
    have hget := atD_get (l := s) ⟨a1, wh⟩
    have hmem : atD s j ∈ s := List.mem_of_getElem? hget
    have hr := hmemS _ hmem
    have hr' := (rightB_iff _).1 hr
    have hdrop : s.drop j.toNat = atD s j :: s.drop (j.toNat + 1) := by
      have hj : j.toNat < s.length := by omega
      rw [List.drop_eq_getElem_cons hj]
      congr 1
      rw [List.getElem?_eq_getElem hj] at hget
      exact Option.some.inj hget
    rw [hdrop, scanF] at a5
    refine WP.call (meet_sp _ _ hr ⟨a3, by dsimp only; omega⟩ hn) ?_
    rintro _ rfl
    have e1 : (j + 1).toNat = j.toNat + 1 := by omega
    refine WP.bif (fun wm => ?_) (fun wm => ?_)
    · rw [if_pos wm] at a5
      refine WP.chk ⟨by omega, by omega⟩ fun _ => ?_
      refine WP.call (eup_sp _ al (by omega) (by omega) hpow) ?_
      rintro _ rfl
      have hv1 := upZ_le (n := (atD s j).Off + (atD s j).Size) hal.1
      have hv2 := upZ_lt (n := (atD s j).Off + (atD s j).Size) hal.1
      refine WP.chk ⟨by omega, by omega⟩ fun _ => ?_
      exact ih _ ⟨by dsimp only; omega, by dsimp only; omega, by dsimp only; omega, by dsimp only; omega, by dsimp only; rw [e1]; exact a5⟩ (by dsimp only; omega)
    · rw [if_neg (by rw [wm]; simp)] at a5
      refine WP.chk ⟨by omega, by omega⟩ fun _ => ?_
      exact ih _ ⟨by dsimp only; omega, by dsimp only; omega, a3, a4, by dsimp only; rw [e1]; exact a5⟩ (by dsimp only; omega)
  · have hj : j.toNat = s.length := by omega
    rw [hj, List.drop_length] at a5
    have a5' : x = z := a5
    subst a5'
    refine WP.chk ⟨by omega, by omega⟩ fun _ => ?_
    refine WP.bif (fun wh => ?_) (fun wh => ?_) <;> (try simp only [wpH, ne_eq] at wh)
    · exact WP.ret (.inr ⟨hbad, .inr ⟨fun y hy => by have := hz2 y hy; omega, rfl⟩⟩)
    · exact WP.ret (.inr ⟨hbad, .inl ⟨x, hz1, by omega, hz2, rfl⟩⟩)
/-! ### The laws -/
end Go.Proofs.Ythlpmklgokjdkaa.Q
