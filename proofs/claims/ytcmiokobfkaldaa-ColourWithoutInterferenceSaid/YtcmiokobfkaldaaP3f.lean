/- The smallest place that fits: what extent.Fit and its reference compute; the laws ExtentFit and ExtentFitIsLeast. -/
import Derived.Test.YtcmiokobfkaldaaP3
import Derived.Sort.AssemblyPlain
set_option linter.unusedVariables false
set_option linter.unusedSimpArgs false
namespace Go.Proofs.Ytcmiokobfkaldaa.Q
/-- Bytes x .. x + n meet those of an interval. -/
def meetB (a : AInterval) (x n : Int) : Bool := decide (max a.Off x < min (a.Off + a.Size) (x + n))
/-- A place for n bytes, from k on. -/
structure FreeAt (l : List AInterval) (k n al x : Int) : Prop where
  dvd : al ∣ x
  ge : k ≤ x
  out : ∀ a ∈ l, meetB a x n = false
def scanF (n al : Int) : List AInterval → Int → Int
  | [], x => x
  | a :: r, x => scanF n al r (if meetB a x n = true then upZ (a.Off + a.Size) al else x)
theorem scanF_least {n al k : Int} (ha : 1 ≤ al) : ∀ {l d : List AInterval} {x : Int}, l.Pairwise (fun a b => a.Off ≤ b.Off) → (∀ a ∈ d, ∀ b ∈ l, a.Off ≤ b.Off) → FreeAt d k n al x → (∀ z, FreeAt (d ++ l) k n al z → x ≤ z) →
    FreeAt (d ++ l) k n al (scanF n al l x) ∧ ∀ z, FreeAt (d ++ l) k n al z → scanF n al l x ≤ z
  | [], d, x, _, _, h1, h2 => by rw [List.append_nil] at h2 ⊢; exact ⟨h1, h2⟩
  | a :: r, d, x, hp, hd, h1, h2 => by
    unfold scanF
    have hpr := List.pairwise_cons.1 hp
    have e : d ++ a :: r = (d ++ [a]) ++ r := by simp
    rw [e] at h2 ⊢
    refine scanF_least ha hpr.2 ?_ ?_ ?_
    · intro b hb c hc
      rcases List.mem_append.1 hb with hb | hb
      · exact hd b hb c (List.mem_cons_of_mem _ hc)
      · rw [List.mem_singleton] at hb; subst hb; exact hpr.1 c hc
    · by_cases hm : meetB a x n = true
      · rw [if_pos hm]
        have hm' : max a.Off x < min (a.Off + a.Size) (x + n) := by simpa [meetB] using hm
        have hu := upZ_le (n := a.Off + a.Size) ha
        have := h1.ge
        refine ⟨upZ_dvd _ _, by omega, fun b hb => ?_⟩
        rcases List.mem_append.1 hb with hb | hb
        · have h3 := h1.out b hb
          have h4 := hd b hb a (List.mem_cons_self ..)
          simp only [meetB, decide_eq_false_iff_not] at h3 ⊢
          omega
        · rw [List.mem_singleton] at hb; subst hb
          simp only [meetB, decide_eq_false_iff_not]
          omega
      · rw [if_neg hm]
        refine ⟨h1.dvd, h1.ge, fun b hb => ?_⟩
        rcases List.mem_append.1 hb with hb | hb
        · exact h1.out b hb
        · rw [List.mem_singleton] at hb; subst hb; simpa using hm
    · intro z hz
      have h3 := h2 z hz
      split
      · rename_i hm
        have hm' : max a.Off x < min (a.Off + a.Size) (x + n) := by simpa [meetB] using hm
        refine upZ_least ha hz.dvd ?_
        have h4 := hz.out a (by simp)
        simp only [meetB, decide_eq_false_iff_not] at h4
        omega
      · exact h3
/-- Where the scan stands is the first place, rounded up, or the end of an interval, rounded up. -/
theorem scanF_cand {n al : Int} : ∀ {l : List AInterval} {x : Int}, scanF n al l x = x ∨ ∃ a ∈ l, scanF n al l x = upZ (a.Off + a.Size) al
  | [], x => .inl rfl
  | a :: r, x => by
    unfold scanF
    rcases scanF_cand (n := n) (al := al) (l := r) (x := if meetB a x n = true then upZ (a.Off + a.Size) al else x) with h | ⟨b, h1, h2⟩
    · by_cases hm : meetB a x n = true
      · rw [if_pos hm] at h ⊢; exact .inr ⟨a, List.mem_cons_self .., h⟩
      · rw [if_neg hm] at h ⊢; exact .inl h
    · exact .inr ⟨b, List.mem_cons_of_mem _ h1, h2⟩
theorem FreeAt.perm {l l' : List AInterval} {k n al x : Int} (h : FreeAt l k n al x) (hp : ∀ a, a ∈ l' → a ∈ l) : FreeAt l' k n al x := ⟨h.dvd, h.ge, fun a ha => h.out a (hp a ha)⟩

/-! ### The sort -/
def cfOff' (x y : AInterval) : Int := Go.Lib.compareInt x.Off y.Off
theorem ltOff' (x y : AInterval) : Go.Proofs.ltOf cfOff' x y = decide (x.Off < y.Off) := by
  unfold Go.Proofs.ltOf cfOff' Go.Lib.compareInt
  by_cases h1 : x.Off < y.Off
  · simp [h1]
  · by_cases h2 : y.Off < x.Off <;> simp [h1, h2]
theorem swoOff' : Go.Sort.SWO (Go.Proofs.ltOf cfOff') where
  irrefl x := by rw [ltOff']; simp
  trans x y z h1 h2 := by rw [ltOff'] at *; simp at *; omega
  ntrans x y z h1 h2 := by rw [ltOff'] at *; simp at *; omega
theorem sort_sp (l : List AInterval) : (sort_extent_Fit_2 l).Perm l ∧ (sort_extent_Fit_2 l).Pairwise (fun a b => a.Off ≤ b.Off) := by
  have h := Go.Sort.pdq_sorts (Go.Proofs.ltOf cfOff') swoOff' l.toArray 0 l.length (Go.Lib.bitLen l.length) true true (Nat.zero_le _) (by simp) (Or.inl rfl)
  have hs : sort_extent_Fit_2 l = (Go.Sort.pdq (Go.Proofs.ltOf cfOff') l.toArray 0 l.length (Go.Lib.bitLen l.length) true true).toList := by unfold sort_extent_Fit_2; rfl
  rw [hs]
  generalize Go.Sort.pdq (Go.Proofs.ltOf cfOff') l.toArray 0 l.length (Go.Lib.bitLen l.length) true true = d at h
  obtain ⟨⟨h1, _, h2⟩, h3⟩ := h
  have h1' : d.size = l.length := by simpa using h1
  have e1 : d.extract 0 l.length = d := by rw [← h1']; simp
  have e2 : l.toArray.extract 0 l.length = l.toArray := by simp
  rw [e1, e2] at h2
  refine ⟨by simpa using h2, List.pairwise_iff_getElem.2 fun i j hi hj hij => ?_⟩
  have h4 := h3 i j (Nat.zero_le _) hij (by simpa [h1'] using hj)
  rw [ltOff'] at h4
  have hi' : i < d.size := by simpa using hi
  have hj' : j < d.size := by simpa using hj
  rw [getElem!_pos d j hj', getElem!_pos d i hi'] at h4
  simp only [decide_eq_false_iff_not, Int.not_lt] at h4
  simpa using h4

/-! ### The smallest place -/
def rightB (a : AInterval) : Bool := boundB a.Off && boundB a.Size && decide (a.Off + a.Size ≤ 2147483647)
theorem rightB_iff (a : AInterval) : rightB a = true ↔ 0 ≤ a.Off ∧ 0 ≤ a.Size ∧ a.Off + a.Size ≤ 2147483647 := by
  unfold rightB
  simp only [Bool.and_eq_true, boundB_iff, decide_eq_true_eq]
  omega
/-- What Fit answers, all being right. -/
def FitP (l : List AInterval) (k n al : Int) (r : Int × Int) : Prop :=
  (∃ z, FreeAt l k n al z ∧ z + n ≤ 2147483647 ∧ (∀ y, FreeAt l k n al y → z ≤ y) ∧ r = (z, 0)) ∨ ((∀ y, FreeAt l k n al y → 2147483647 < y + n) ∧ r = (0, 9))
theorem FitP.unique {l : List AInterval} {k n al : Int} {r r' : Int × Int} (h : FitP l k n al r) (h' : FitP l k n al r') : r = r' := by
  rcases h with ⟨z, h1, h2, h3, rfl⟩ | ⟨h1, rfl⟩ <;> rcases h' with ⟨z', h1', h2', h3', rfl⟩ | ⟨h1', rfl⟩
  · have := h3 z' h1'; have := h3' z h1
    rw [show z = z' by omega]
  · have := h1' z h1; omega
  · have := h1 z' h1'; omega
  · rfl
def badArgs (l : List AInterval) (k n al : Int) : Bool := !boundB k || !boundB n || !powB al || l.any (fun a => !rightB a)
def FitR (l : List AInterval) (k n al : Int) (r : Int × Int) : Prop := (badArgs l k n al = true ∧ r = (0, 4)) ∨ (badArgs l k n al = false ∧ FitP l k n al r)
theorem FitR.unique {l : List AInterval} {k n al : Int} {r r' : Int × Int} (h : FitR l k n al r) (h' : FitR l k n al r') : r = r' := by
  rcases h with ⟨h1, rfl⟩ | ⟨h1, h2⟩ <;> rcases h' with ⟨h1', rfl⟩ | ⟨h1', h2'⟩
  · rfl
  · rw [h1] at h1'; cases h1'
  · rw [h1] at h1'; cases h1'
  · exact h2.unique h2'
theorem least_ex {l : List AInterval} {k n al : Int} (ha : 1 ≤ al) : ∃ z, FreeAt l k n al z ∧ (∀ y, FreeAt l k n al y → z ≤ y) ∧ (z = upZ k al ∨ ∃ a ∈ l, z = upZ (max k (a.Off + a.Size)) al) := by
  obtain ⟨hp, hs⟩ := sort_sp l
  have h0 : FreeAt ([] : List AInterval) k n al (upZ k al) := ⟨upZ_dvd _ _, upZ_le ha, by simp⟩
  obtain ⟨h1, h2⟩ := scanF_least (n := n) (k := k) ha (d := []) hs (by simp) h0 (fun z hz => upZ_least ha hz.dvd hz.ge)
  rw [List.nil_append] at h1 h2
  have h3 : FreeAt l k n al (scanF n al (sort_extent_Fit_2 l) (upZ k al)) := h1.perm fun a h => hp.mem_iff.2 h
  have h4 : ∀ y, FreeAt l k n al y → scanF n al (sort_extent_Fit_2 l) (upZ k al) ≤ y := fun y hy => h2 y (hy.perm fun a h => hp.mem_iff.1 h)
  refine ⟨_, h3, h4, ?_⟩
  rcases scanF_cand (n := n) (al := al) (l := sort_extent_Fit_2 l) (x := upZ k al) with h | ⟨a, ha1, h⟩
  · exact .inl h
  · by_cases hka : k ≤ a.Off + a.Size
    · exact .inr ⟨a, hp.mem_iff.1 ha1, by rw [h, show max k (a.Off + a.Size) = a.Off + a.Size by omega]⟩
    · left
      have h5 := h3.ge
      have h6 : upZ k al ≤ scanF n al (sort_extent_Fit_2 l) (upZ k al) := upZ_least ha h3.dvd h5
      have h7 : upZ (a.Off + a.Size) al ≤ upZ k al := upZ_least ha (upZ_dvd _ _) (by have := upZ_le (n := k) ha; omega)
      omega

/-! ### The program's functions -/
theorem eright_sp (a : AInterval) : WP (extent_right a) (· = rightB a) := by
  unfold extent_right rightB
  refine WP.call (ebound_sp _) ?_
  rintro _ rfl
  refine WP.bif (fun wh => ?_) (fun wh => ?_)
  · rw [wh]
    have h1 := (boundB_iff _).1 wh
    refine WP.call (ebound_sp _) ?_
    rintro _ rfl
    refine WP.bif (fun wh => ?_) (fun wh => ?_)
    · rw [wh]
      have h2 := (boundB_iff _).1 wh
      refine WP.chk ⟨by omega, by omega⟩ fun _ => ?_
      exact WP.ret rfl
    · rw [wh]; exact WP.ret rfl
  · rw [wh]; exact WP.ret rfl
theorem rright_sp' (a : AInterval) : WP (r03_Right a) (· = rightB a) := by
  unfold r03_Right rightB
  refine WP.call (rbound_sp _) ?_
  rintro _ rfl
  refine WP.bif (fun wh => ?_) (fun wh => ?_)
  · rw [wh]
    have h1 := (boundB_iff _).1 wh
    refine WP.call (rbound_sp _) ?_
    rintro _ rfl
    refine WP.bif (fun wh => ?_) (fun wh => ?_)
    · rw [wh]
      have h2 := (boundB_iff _).1 wh
      refine WP.chk ⟨by omega, by omega⟩ fun _ => ?_
      exact WP.ret rfl
    · rw [wh]; exact WP.ret rfl
  · rw [wh]; exact WP.ret rfl
theorem index_sp (l : List AInterval) (hl : l.length < 1000000000000) : WP (slices_IndexFunc___api_Interval_api_Interval__of_extent_Fit_1 l) fun i => (0 ≤ i ↔ l.any (fun a => !rightB a) = true) := by
  unfold slices_IndexFunc___api_Interval_api_Interval__of_extent_Fit_1
  refine WP.loop (fun j => 0 ≤ j ∧ j ≤ l.length ∧ ∀ t, inN t l.length → t < j → rightB (atD l t) = true) (fun j => l.length - j.toNat) ⟨by omega, by omega, fun t ht h => by have := ht.1; omega⟩ ?_
  rintro again k ⟨a1, a2, a3⟩ ih
  refine WP.bif (fun wh => ?_) (fun wh => ?_) <;> (try simp only [wpH, ne_eq] at wh)
  · refine WP.chk ⟨a1, wh⟩ fun _ => ?_
    refine WP.call (R := (· = !rightB (atD l k))) ?_ ?_
    · unfold extent_Fit_1
      refine WP.call (eright_sp _) ?_
      rintro _ rfl
      exact WP.ret rfl
    rintro _ rfl
    have hmem : atD l k ∈ l := List.mem_of_getElem? (atD_get ⟨a1, wh⟩)
    refine WP.bif (fun hb => ?_) (fun hb => ?_)
    · exact WP.ret ⟨fun _ => List.any_eq_true.2 ⟨_, hmem, hb⟩, fun _ => a1⟩
    · refine WP.chk ⟨by omega, by omega⟩ fun _ => ?_
      refine ih _ ⟨by omega, by omega, fun t h1 h2 => ?_⟩ (by omega)
      by_cases ht : t = k
      · subst ht; simpa using hb
      · exact a3 t h1 (by omega)
  · refine WP.ret ⟨fun h => by omega, fun h => ?_⟩
    obtain ⟨a, ha, hb⟩ := List.any_eq_true.1 h
    obtain ⟨t, ht, rfl⟩ := List.mem_iff_getElem.1 ha
    have h2 := a3 t ⟨by omega, by omega⟩ (by omega)
    have h3 : atD l (t : Int) = l[t] := by unfold atD; simp [List.getD_eq_getElem?_getD, List.getElem?_eq_getElem ht]
    rw [h3] at h2
    rw [h2] at hb; cases hb
theorem meet_sp (a b : AInterval) (h1 : rightB a = true) (h2 : 0 ≤ b.Off ∧ b.Off ≤ 4611686018427387904) (h3 : 0 ≤ b.Size ∧ b.Size ≤ 2147483647) : WP (extent_meet a b) (· = meetB a b.Off b.Size) := by
  have := (rightB_iff a).1 h1
  unfold extent_meet meetB
  refine WP.chk ⟨by omega, by omega⟩ fun _ => ?_
  refine WP.chk ⟨by omega, by omega⟩ fun _ => ?_
  exact WP.ret rfl
theorem fit_sp' (l : List AInterval) (k n al : Int) (hl : l.length < 100000000000) : WP (extent_Fit l k n al) (FitR l k n al) := by
  unfold extent_Fit
  refine WP.call (ebound_sp _) ?_
  rintro _ rfl
  refine WP.bif (fun wh => WP.ret (.inl ⟨by unfold badArgs; rw [wh]; rfl, rfl⟩)) (fun wk => ?_)
  refine WP.call (ebound_sp _) ?_
  rintro _ rfl
  refine WP.bif (fun wh => WP.ret (.inl ⟨by unfold badArgs; rw [wh]; simp, rfl⟩)) (fun wn => ?_)
  refine WP.call (epower_sp _) ?_
  rintro _ rfl
  refine WP.bif (fun wh => WP.ret (.inl ⟨by unfold badArgs; rw [wh]; simp, rfl⟩)) (fun wa => ?_)
  have hk := (boundB_iff k).1 (by simpa using wk)
  have hn := (boundB_iff n).1 (by simpa using wn)
  have hpow : powB al = true := by simpa using wa
  have hal := powB_bd hpow
  refine WP.call (R := (· = l.any (fun a => !rightB a))) ?_ ?_
  · unfold slices_ContainsFunc___api_Interval_api_Interval__of_extent_Fit_1
    refine WP.call (index_sp l (by omega)) fun i hi => WP.ret ?_
    rw [Bool.eq_iff_iff, decide_eq_true_eq]; exact hi
  rintro _ rfl
  refine WP.bif (fun wh => WP.ret (.inl ⟨by unfold badArgs; rw [wh]; simp, rfl⟩)) (fun wr => ?_)
  have hbad : badArgs l k n al = false := by
    unfold badArgs
    rw [wk, wn, wa, wr]; rfl
  have hright : ∀ a ∈ l, rightB a = true := fun a ha => by
    have := List.any_eq_false.1 wr a ha
    simpa using this
  refine WP.call (R := (· = l)) ?_ ?_
  · unfold slices_Clone___api_Interval_api_Interval_
    refine WP.both l (fun h => WP.ret h.symm) (WP.chk (by simp only [List.length_nil]; omega) fun _ => WP.ret rfl) rfl
  intro l' hl'
  rw [show l' = l from hl']
  refine WP.chk (by omega) fun _ => ?_
  obtain ⟨hp, hs⟩ := sort_sp l
  have hlen : (sort_extent_Fit_2 l).length = l.length := hp.length_eq
  have hmemS : ∀ a ∈ sort_extent_Fit_2 l, rightB a = true := fun a ha => hright a (hp.mem_iff.1 ha)
  obtain ⟨z, hz1, hz2, -⟩ := least_ex (l := l) (k := k) (n := n) hal.1
  have hres : scanF n al (sort_extent_Fit_2 l) (upZ k al) = z := by
    have h0 : FreeAt ([] : List AInterval) k n al (upZ k al) := ⟨upZ_dvd _ _, upZ_le hal.1, by simp⟩
    obtain ⟨h1, h2⟩ := scanF_least (n := n) (k := k) hal.1 (d := []) hs (by simp) h0 (fun z hz => upZ_least hal.1 hz.dvd hz.ge)
    rw [List.nil_append] at h1 h2
    have h3 := hz2 _ (h1.perm fun a h => hp.mem_iff.2 h)
    have h4 := h2 z (hz1.perm fun a h => hp.mem_iff.1 h)
    omega
  generalize sort_extent_Fit_2 l = s at *
  refine WP.call (eup_sp k al hk.1 hk.2 hpow) ?_
  rintro _ rfl
  have hu1 := upZ_le (n := k) hal.1
  have hu2 := upZ_lt (n := k) hal.1
  refine WP.loop (fun j => 0 ≤ j.2 ∧ j.2 ≤ s.length ∧ 0 ≤ j.1 ∧ j.1 ≤ 2200000000 ∧ scanF n al (s.drop j.2.toNat) j.1 = z) (fun j => s.length - j.2.toNat) ⟨by simp, by simp, by dsimp only; omega, by dsimp only; omega, by simpa using hres⟩ ?_
  rintro again ⟨x, j⟩ ⟨a1, a2, a3, a4, a5⟩ ih
  dsimp only at a1 a2 a3 a4 a5 ⊢
  refine WP.bif (fun wh => ?_) (fun wh => ?_) <;> (try simp only [wpH, ne_eq] at wh)
  · refine WP.chk ⟨a1, wh⟩ fun _ => ?_
    have hget := atD_get (l := s) ⟨a1, wh⟩
    have hmem : atD s j ∈ s := List.mem_of_getElem? hget
    have hr := hmemS _ hmem
    have hr' := (rightB_iff _).1 hr
    have hdrop : s.drop j.toNat = atD s j :: s.drop (j.toNat + 1) := by
      have hj : j.toNat < s.length := by omega
      rw [List.drop_eq_getElem_cons hj]
      congr 1
      rw [List.getElem?_eq_getElem hj] at hget
      exact Option.some.inj hget
    rw [hdrop, scanF] at a5
    refine WP.call (meet_sp _ _ hr ⟨a3, by dsimp only; omega⟩ hn) ?_
    rintro _ rfl
    have e1 : (j + 1).toNat = j.toNat + 1 := by omega
    refine WP.bif (fun wm => ?_) (fun wm => ?_)
    · rw [if_pos wm] at a5
      refine WP.chk ⟨by omega, by omega⟩ fun _ => ?_
      refine WP.call (eup_sp _ al (by omega) (by omega) hpow) ?_
      rintro _ rfl
      have hv1 := upZ_le (n := (atD s j).Off + (atD s j).Size) hal.1
      have hv2 := upZ_lt (n := (atD s j).Off + (atD s j).Size) hal.1
      refine WP.chk ⟨by omega, by omega⟩ fun _ => ?_
      exact ih _ ⟨by dsimp only; omega, by dsimp only; omega, by dsimp only; omega, by dsimp only; omega, by dsimp only; rw [e1]; exact a5⟩ (by dsimp only; omega)
    · rw [if_neg (by rw [wm]; simp)] at a5
      refine WP.chk ⟨by omega, by omega⟩ fun _ => ?_
      exact ih _ ⟨by dsimp only; omega, by dsimp only; omega, a3, a4, by dsimp only; rw [e1]; exact a5⟩ (by dsimp only; omega)
  · have hj : j.toNat = s.length := by omega
    rw [hj, List.drop_length] at a5
    have a5' : x = z := a5
    subst a5'
    refine WP.chk ⟨by omega, by omega⟩ fun _ => ?_
    refine WP.bif (fun wh => ?_) (fun wh => ?_) <;> (try simp only [wpH, ne_eq] at wh)
    · exact WP.ret (.inr ⟨hbad, .inr ⟨fun y hy => by have := hz2 y hy; omega, rfl⟩⟩)
    · exact WP.ret (.inr ⟨hbad, .inl ⟨x, hz1, by omega, hz2, rfl⟩⟩)
theorem overlap_sp' (a b : AInterval) (h1 : rightB a = true) (h2 : rightB b = true) : WP (r03_Overlap a b) (· = meetB a b.Off b.Size) := by
  have g1 := (rightB_iff a).1 h1
  have g2 := (rightB_iff b).1 h2
  unfold r03_Overlap meetB
  refine WP.call (rright_sp' _) ?_
  rintro _ rfl
  rw [h1]
  refine WP.bif (fun _ => ?_) (fun h => by cases h)
  refine WP.call (rright_sp' _) ?_
  rintro _ rfl
  rw [h2]
  refine WP.bif (fun _ => ?_) (fun h => by cases h)
  refine WP.bif (fun wh => ?_) (fun wh => ?_) <;> (try simp only [wpH, ne_eq] at wh)
  · refine WP.bif (fun wh2 => ?_) (fun wh2 => ?_) <;> (try simp only [wpH, ne_eq] at wh)
    · refine WP.chk ⟨by omega, by omega⟩ fun _ => ?_
      refine WP.bif (fun wh3 => ?_) (fun wh3 => ?_)
      · have w3 : a.Off < b.Off + b.Size := by simpa using wh3
        have w2 : 0 < b.Size := by simpa using wh2
        refine WP.chk ⟨by omega, by omega⟩ fun _ => WP.ret ?_
        rw [Bool.eq_iff_iff, decide_eq_true_eq, decide_eq_true_eq]; omega
      · have w3 : ¬ a.Off < b.Off + b.Size := by simpa using wh3
        exact WP.ret (by symm; rw [decide_eq_false_iff_not]; omega)
    · have w2 : ¬ 0 < b.Size := by simpa using wh2
      exact WP.ret (by symm; rw [decide_eq_false_iff_not]; omega)
  · exact WP.ret (by symm; rw [decide_eq_false_iff_not]; omega)
theorem free_sp (l : List AInterval) (x : AInterval) (hl : l.length < 1000000000000) (hr : ∀ a ∈ l, rightB a = true) (hx : rightB x = true) : WP (r03_free l x) (· = true ↔ ∀ a ∈ l, meetB a x.Off x.Size = false) := by
  unfold r03_free
  refine WP.loop (fun j => 0 ≤ j ∧ j ≤ l.length ∧ ∀ t, inN t l.length → t < j → meetB (atD l t) x.Off x.Size = false) (fun j => l.length - j.toNat) ⟨by omega, by omega, fun t ht h => by have := ht.1; omega⟩ ?_
  rintro again k ⟨a1, a2, a3⟩ ih
  refine WP.bif (fun wh => ?_) (fun wh => ?_) <;> (try simp only [wpH, ne_eq] at wh)
  · refine WP.chk ⟨a1, wh⟩ fun _ => ?_
    have hmem : atD l k ∈ l := List.mem_of_getElem? (atD_get ⟨a1, wh⟩)
    refine WP.call (overlap_sp' _ _ (hr _ hmem) hx) ?_
    rintro _ rfl
    refine WP.bif (fun hb => ?_) (fun hb => ?_)
    · refine WP.ret ⟨fun h => (by cases h), fun h => ?_⟩
      rw [h _ hmem] at hb; cases hb
    · refine WP.chk ⟨by omega, by omega⟩ fun _ => ?_
      refine ih _ ⟨by omega, by omega, fun t h1 h2 => ?_⟩ (by omega)
      by_cases ht : t = k
      · subst ht; exact hb
      · exact a3 t h1 (by omega)
  · refine WP.ret ⟨fun _ a ha => ?_, fun _ => rfl⟩
    obtain ⟨t, ht, rfl⟩ := List.mem_iff_getElem.1 ha
    have h2 := a3 t ⟨by omega, by omega⟩ (by omega)
    have h3 : atD l (t : Int) = l[t] := by unfold atD; simp [List.getD_eq_getElem?_getD, List.getElem?_eq_getElem ht]
    rw [h3] at h2; exact h2
theorem rfit_sp' (l : List AInterval) (k n al : Int) (hl : l.length < 100000000000) : WP (r03_Fit l k n al) (FitR l k n al) := by
  unfold r03_Fit
  refine WP.call (rbound_sp _) ?_
  rintro _ rfl
  refine WP.bif (fun wh => WP.ret (.inl ⟨by unfold badArgs; rw [wh]; rfl, rfl⟩)) (fun wk => ?_)
  refine WP.call (rbound_sp _) ?_
  rintro _ rfl
  refine WP.bif (fun wh => WP.ret (.inl ⟨by unfold badArgs; rw [wh]; simp, rfl⟩)) (fun wn => ?_)
  refine WP.call (power_sp _) ?_
  rintro _ rfl
  refine WP.bif (fun wh => WP.ret (.inl ⟨by unfold badArgs; rw [wh]; simp, rfl⟩)) (fun wa => ?_)
  have hk := (boundB_iff k).1 (by simpa using wk)
  have hn := (boundB_iff n).1 (by simpa using wn)
  have hpow : powB al = true := by simpa using wa
  have hal := powB_bd hpow
  refine WP.loop (fun j => 0 ≤ j ∧ j ≤ l.length ∧ ∀ t, inN t l.length → t < j → rightB (atD l t) = true) (fun j => l.length - j.toNat) ⟨by omega, by omega, fun t ht h => by have := ht.1; omega⟩ ?_
  rintro again i ⟨a1, a2, a3⟩ ih
  refine WP.bif (fun wh => ?_) (fun wh => ?_) <;> (try simp only [wpH, ne_eq] at wh)
  · refine WP.chk ⟨a1, wh⟩ fun _ => ?_
    have hmem : atD l i ∈ l := List.mem_of_getElem? (atD_get ⟨a1, wh⟩)
    refine WP.call (rright_sp' _) ?_
    rintro _ rfl
    refine WP.bif (fun hb => ?_) (fun hb => ?_)
    · refine WP.ret (.inl ⟨?_, rfl⟩)
      unfold badArgs
      rw [Bool.or_eq_true]
      exact .inr (List.any_eq_true.2 ⟨_, hmem, hb⟩)
    · refine WP.chk ⟨by omega, by omega⟩ fun _ => ?_
      refine ih _ ⟨by omega, by omega, fun t h1 h2 => ?_⟩ (by omega)
      by_cases ht : t = i
      · subst ht; simpa using hb
      · exact a3 t h1 (by omega)
  have hright : ∀ a ∈ l, rightB a = true := fun a ha => by
    obtain ⟨t, ht, rfl⟩ := List.mem_iff_getElem.1 ha
    have h2 := a3 t ⟨by omega, by omega⟩ (by omega)
    have h3 : atD l (t : Int) = l[t] := by unfold atD; simp [List.getD_eq_getElem?_getD, List.getElem?_eq_getElem ht]
    rw [h3] at h2; exact h2
  clear a1 a2 a3 wh
  have hbad : badArgs l k n al = false := by
    unfold badArgs
    rw [wk, wn, wa]
    simp only [Bool.false_or]
    exact List.any_eq_false.2 fun a ha => by rw [hright a ha]; simp
  obtain ⟨z, hz1, hz2, hz3⟩ := least_ex (l := l) (k := k) (n := n) hal.1
  -- what candidate number i is
  let cand : Int → Int := fun i => upZ (if 0 ≤ i then max k ((atD l i).Off + (atD l i).Size) else k) al
  have hcand : ∀ i, cand i = upZ (if 0 ≤ i then max k ((atD l i).Off + (atD l i).Size) else k) al := fun _ => rfl
  have hex : ∃ i : Int, -1 ≤ i ∧ i < l.length ∧ cand i = z := by
    rcases hz3 with h | ⟨a, ha, h⟩
    · exact ⟨-1, by omega, by omega, by rw [hcand, if_neg (by omega), h]⟩
    · obtain ⟨t, ht, rfl⟩ := List.mem_iff_getElem.1 ha
      have h3 : atD l (t : Int) = l[t] := by unfold atD; simp [List.getD_eq_getElem?_getD, List.getElem?_eq_getElem ht]
      exact ⟨t, by omega, by omega, by rw [hcand, if_pos (by omega), h3, h]⟩
  refine WP.loop (fun j => -1 ≤ j.2.2 ∧ j.2.2 ≤ l.length ∧ (j.2.1 = true → FreeAt l k n al j.1 ∧ j.1 + n ≤ 2147483647) ∧ ∀ i, -1 ≤ i → i < j.2.2 → FreeAt l k n al (cand i) → cand i + n ≤ 2147483647 → j.2.1 = true ∧ j.1 ≤ cand i) (fun j => (l.length + 1 - j.2.2).toNat) ⟨by simp, by dsimp only; omega, fun h => (by cases h), fun i h1 h2 => by dsimp only at h2; omega⟩ ?_
  rintro again ⟨best, found, i⟩ ⟨a1, a2, a3, a4⟩ ih
  dsimp only at a1 a2 a3 a4 ⊢
  refine WP.bif (fun wh => ?_) (fun wh => ?_) <;> (try simp only [wpH, ne_eq] at wh)
  · have hat : ∀ at_ : Int, at_ = (if 0 ≤ i then max k ((atD l i).Off + (atD l i).Size) else k) → 0 ≤ at_ ∧ at_ ≤ 2147483647 → WP (M.call (r03_Up at_ al) fun x5 =>
        M.bif (decide (x5.2 = 0))
          (M.call (r03_Right (⟨x5.1, n⟩ : AInterval)) fun x6 =>
          M.bif x6
            (M.call (r03_free l (⟨x5.1, n⟩ : AInterval)) fun x7 =>
              M.bif x7
                (M.bif (!found)
                  (M.chk (okI (i + 1)) <|
                    again (x5.1, true, (i + 1)))
                  (M.bif (decide (x5.1 < best))
                      (M.chk (okI (i + 1)) <|
                      again (x5.1, true, (i + 1)))
                      (M.chk (okI (i + 1)) <|
                      again (best, found, (i + 1)))))
                (M.chk (okI (i + 1)) <|
                again (best, found, (i + 1))))
            (M.chk (okI (i + 1)) <|
              again (best, found, (i + 1))))
          (M.chk (okI (i + 1)) <|
          again (best, found, (i + 1)))) (FitR l k n al) := by
      intro at_ hat hb
      have hc : cand i = upZ at_ al := by rw [hcand, hat]
      have hu1 := upZ_le (n := at_) hal.1
      have hka : k ≤ at_ := by rw [hat]; split <;> omega
      refine WP.call (rUp_sp at_ al) ?_
      rintro _ rfl
      have hq : upQ at_ al = if 2147483647 < upZ at_ al then (0, 9) else (upZ at_ al, 0) := by
        unfold upQ
        rw [(boundB_iff at_).2 hb, hpow]; rfl
      -- the candidate is no good: nothing turns
      have skip : (FreeAt l k n al (cand i) → cand i + n ≤ 2147483647 → False) → WP (M.chk (okI (i + 1)) <| again (best, found, (i + 1))) (FitR l k n al) := fun hno => by
        refine WP.chk ⟨by omega, by omega⟩ fun _ => ?_
        refine ih _ ⟨by dsimp only; omega, by dsimp only; omega, a3, fun i' h1 h2 h3 h4 => ?_⟩ (by dsimp only; omega)
        dsimp only at h2 ⊢
        by_cases hii : i' = i
        · subst hii; exact (hno h3 h4).elim
        · exact a4 i' h1 (by omega) h3 h4
      rw [hq]
      by_cases hbig : 2147483647 < upZ at_ al
      · rw [if_pos hbig]
        refine WP.bif (fun w => by simp at w) (fun _ => skip fun _ h => ?_)
        rw [hc] at h; omega
      rw [if_neg hbig]
      refine WP.bif (fun _ => ?_) (fun w => by simp at w)
      refine WP.call (rright_sp' _) ?_
      rintro _ rfl
      refine WP.bif (fun wr => ?_) (fun wr => skip fun _ h => ?_)
      · have hr := (rightB_iff _).1 wr
        dsimp only at hr
        refine WP.call (free_sp l _ (by omega) hright wr) fun b hb2 => ?_
        dsimp only at hb2
        have hgood : b = true → FreeAt l k n al (upZ at_ al) := fun h => ⟨upZ_dvd _ _, by omega, hb2.1 h⟩
        refine WP.bif (fun wb => ?_) (fun wb => skip fun h _ => ?_)
        · have hg := hgood wb
          have take : (found = true → upZ at_ al < best) → WP (M.chk (okI (i + 1)) <| again (upZ at_ al, true, (i + 1))) (FitR l k n al) := fun hlt => by
            refine WP.chk ⟨by omega, by omega⟩ fun _ => ?_
            refine ih _ ⟨by dsimp only; omega, by dsimp only; omega, fun _ => ⟨hg, by dsimp only; omega⟩, fun i' h1 h2 h3 h4 => ⟨rfl, ?_⟩⟩ (by dsimp only; omega)
            dsimp only at h2 ⊢
            by_cases hii : i' = i
            · subst hii; omega
            · obtain ⟨q1, q2⟩ := a4 i' h1 (by omega) h3 h4
              have := hlt q1; omega
          refine WP.bif (fun wf => take fun h => by rw [h] at wf; cases wf) (fun wf => ?_)
          have hf : found = true := by simpa using wf
          refine WP.bif (fun wl => take fun _ => by simpa using wl) (fun wl => ?_)
          have hl' : ¬ upZ at_ al < best := by simpa using wl
          refine WP.chk ⟨by omega, by omega⟩ fun _ => ?_
          refine ih _ ⟨by dsimp only; omega, by dsimp only; omega, a3, fun i' h1 h2 h3 h4 => ?_⟩ (by dsimp only; omega)
          dsimp only at h2 ⊢
          by_cases hii : i' = i
          · subst hii; exact ⟨hf, by omega⟩
          · exact a4 i' h1 (by omega) h3 h4
        · rw [hc] at h
          rw [hb2.2 h.out] at wb; cases wb
      · have hr : ¬ (rightB ⟨upZ at_ al, n⟩ = true) := by rw [wr]; simp
        rw [rightB_iff] at hr
        dsimp only at hr
        rw [hc] at h
        omega
    refine WP.join (fun m => m = (if 0 ≤ i then max k ((atD l i).Off + (atD l i).Size) else k) ∧ 0 ≤ m ∧ m ≤ 2147483647) (fun m hm => hat m hm.1 hm.2) fun kk hkk => ?_
    refine WP.bif (fun w0 => ?_) (fun w0 => ?_)
    · have h0 : 0 ≤ i := by simpa using w0
      have hmem : atD l i ∈ l := List.mem_of_getElem? (atD_get ⟨h0, wh⟩)
      have hr := (rightB_iff _).1 (hright _ hmem)
      refine WP.chk ⟨h0, wh⟩ fun _ => WP.chk ⟨h0, wh⟩ fun _ => WP.chk ⟨by omega, by omega⟩ fun _ => ?_
      refine hkk _ ⟨by rw [if_pos h0], by omega, by omega⟩
    · have h0 : ¬ 0 ≤ i := by simpa using w0
      exact hkk _ ⟨by rw [if_neg h0], hk.1, hk.2⟩
  · obtain ⟨j, hj1, hj2, hj3⟩ := hex
    refine WP.bif (fun wf => ?_) (fun wf => ?_)
    · refine WP.ret (.inr ⟨hbad, .inr ⟨fun y hy => ?_, rfl⟩⟩)
      have h1 := hz2 y hy
      by_cases hz : z + n ≤ 2147483647
      · obtain ⟨q1, _⟩ := a4 j hj1 (by omega) (by rw [hj3]; exact hz1) (by rw [hj3]; exact hz)
        rw [q1] at wf; cases wf
      · omega
    · have hf : found = true := by simpa using wf
      obtain ⟨q1, q2⟩ := a3 hf
      have h1 := hz2 best q1
      obtain ⟨_, q4⟩ := a4 j hj1 (by omega) (by rw [hj3]; exact hz1) (by rw [hj3]; omega)
      have hbz : best = z := by omega
      refine WP.ret (.inr ⟨hbad, .inl ⟨z, hz1, by omega, hz2, by rw [hbz]⟩⟩)
/-! ### The laws -/
theorem eoverlap_sp' (a b : AInterval) (h1 : rightB a = true) (h2 : rightB b = true) : WP (extent_Overlap a b) (· = meetB a b.Off b.Size) := by
  have g2 := (rightB_iff b).1 h2
  unfold extent_Overlap
  refine WP.call (eright_sp _) ?_
  rintro _ rfl
  rw [h1]
  refine WP.bif (fun _ => ?_) (fun h => by cases h)
  refine WP.call (eright_sp _) ?_
  rintro _ rfl
  rw [h2]
  refine WP.bif (fun _ => ?_) (fun h => by cases h)
  refine WP.call (meet_sp a b h1 ⟨g2.1, by omega⟩ ⟨g2.2.1, by omega⟩) ?_
  rintro _ rfl
  exact WP.ret rfl
end Go.Proofs.Ytcmiokobfkaldaa.Q
