/- Chapter 29: the bound of a chain, at the limit and beyond it. -/
import Derived.Test.YtmefipdgohflmaaDoorP29b
set_option linter.unusedVariables false
set_option linter.unusedSimpArgs false
namespace Go.Proofs.YtmefipdgohflmaaDoor.Q
theorem weightsA_sp (t : ATarget) (hl : t.Frames.length ≤ 1000000) : WP (bound_Weights t) (· = t.Frames.map (·.Size)) := by
  unfold bound_Weights
  refine WP.loop (fun z => 0 ≤ z.1 ∧ z.1 ≤ t.Frames.length ∧ z.2 = (t.Frames.take z.1.toNat).map (·.Size)) (fun z => t.Frames.length - z.1.toNat) ⟨Int.le_refl _, by dsimp only; omega, rfl⟩ ?_
  rintro again ⟨x, w⟩ ⟨h1, h2, h3⟩ ih
  dsimp only at h1 h2 h3 ih ⊢
  have hwl : w.length ≤ t.Frames.length := by rw [h3, List.length_map, List.length_take]; omega
  refine WP.bif (fun wh => ?_) (fun wh => ?_) <;> (try simp only [wpH, ne_eq] at wh)
  · have hx : inN x t.Frames.length := ⟨h1, wh⟩
    refine WP.chk hx fun _ => WP.chk (by simp only [List.length_cons, List.length_nil]; omega) fun _ => WP.chk ⟨by omega, by omega⟩ fun _ => ?_
    refine ih _ ⟨by dsimp only; omega, by dsimp only; omega, ?_⟩ (by dsimp only; omega)
    dsimp only
    rw [take_atD hx, List.map_append, ← h3]; rfl
  · rw [take_all (by omega)] at h3
    exact WP.ret h3
theorem weightsR_sp (t : ATarget) (hl : t.Frames.length ≤ 1000000) : WP (r29_Weights t) (· = t.Frames.map (·.Size)) := by
  unfold r29_Weights
  refine WP.loop (fun z => 0 ≤ z.1 ∧ z.1 ≤ t.Frames.length ∧ z.2 = (t.Frames.take z.1.toNat).map (·.Size)) (fun z => t.Frames.length - z.1.toNat) ⟨Int.le_refl _, by dsimp only; omega, rfl⟩ ?_
  rintro again ⟨x, w⟩ ⟨h1, h2, h3⟩ ih
  dsimp only at h1 h2 h3 ih ⊢
  have hwl : w.length ≤ t.Frames.length := by rw [h3, List.length_map, List.length_take]; omega
  refine WP.bif (fun wh => ?_) (fun wh => ?_) <;> (try simp only [wpH, ne_eq] at wh)
  · have hx : inN x t.Frames.length := ⟨h1, wh⟩
    refine WP.chk hx fun _ => WP.chk (by simp only [List.length_cons, List.length_nil]; omega) fun _ => WP.chk ⟨by omega, by omega⟩ fun _ => ?_
    refine ih _ ⟨by dsimp only; omega, by dsimp only; omega, ?_⟩ (by dsimp only; omega)
    dsimp only
    rw [take_atD hx, List.map_append, ← h3]; rfl
  · rw [take_all (by omega)] at h3
    exact WP.ret h3
/-- The bounds of a chain. -/
def chainB (n : Nat) (q l : Int) : List Int := (List.range n).map fun k : Nat => q * ((n : Int) - 1 - k) + l
theorem chainB_at {n : Nat} {q l a : Int} (ha : inN a n) : atD (chainB n q l) a = q * ((n : Int) - 1 - a) + l := by
  obtain ⟨k, rfl⟩ := Int.eq_ofNat_of_zero_le ha.1
  have hk : k < n := by have := ha.2; omega
  rw [atD_nat (by unfold chainB; simpa using hk)]
  simp [chainB]
theorem pl_BoundOverflows (count extra : Int) (sizes : List Int) (hc : 0 ≤ count ∧ count ≤ 255) (he : -128 ≤ extra ∧ extra ≤ 127) (hs : ∀ z ∈ sizes, 0 ≤ z ∧ z ≤ 255) : WP (law29_BoundOverflows count extra sizes) (· = true) := by
  unfold law29_BoundOverflows
  refine WP.call awake29_sp ?_
  rintro _ rfl
  refine WP.bif (fun wh => absurd wh (by decide)) (fun _ => ?_)
  refine WP.bif (fun wh => WP.ret wh) (fun wh => ?_)
  have hsl : sizes.length ≤ 100 := by have := of_decide_eq_false wh; omega
  have ht : Int.tmod count 80 = count % 80 := Int.tmod_eq_emod_of_nonneg hc.1
  have hn : 1 ≤ 1 + Int.tmod count 80 ∧ 1 + Int.tmod count 80 ≤ 80 := by rw [ht]; omega
  refine WP.chk ⟨by omega, by omega⟩ fun _ => WP.chk (by decide) fun _ => ?_
  generalize 1 + Int.tmod count 80 = n0 at hn ⊢
  obtain ⟨n, rfl⟩ := Int.eq_ofNat_of_zero_le (show 0 ≤ n0 by omega)
  have hm : Int.tmod 2147483647 (n : Int) = 2147483647 % (n : Int) := Int.tmod_eq_emod_of_nonneg (by decide)
  have he2 : -1 ≤ Int.tmod extra 2 ∧ Int.tmod extra 2 ≤ 1 := by
    have h1 := Int.tmod_lt_of_pos extra (b := 2) (by decide)
    have h2 : -2 < Int.tmod extra 2 := by
      have := Int.tmod_lt_of_pos (-extra) (b := 2) (by decide)
      rw [Int.neg_tmod] at this
      omega
    omega
  rw [hm]
  generalize Int.tmod extra 2 = e at he2 ⊢
  have hq0 : 0 ≤ 2147483647 / (n : Int) := Int.ediv_nonneg (by decide) (by omega)
  have hr0 : 0 ≤ 2147483647 % (n : Int) := Int.emod_nonneg _ (by omega)
  have hr1 : 2147483647 % (n : Int) < n := Int.emod_lt_of_pos _ (by omega)
  have hqr : (n : Int) * (2147483647 / (n : Int)) + 2147483647 % (n : Int) = 2147483647 := by have := Int.emod_def 2147483647 (n : Int); omega
  generalize 2147483647 / (n : Int) = q at hq0 hqr ⊢
  generalize 2147483647 % (n : Int) = rr at hr0 hr1 hqr ⊢
  have hqn : q ≤ 2147483647 := by
    have : 1 * q ≤ (n : Int) * q := Int.mul_le_mul_of_nonneg_right (by omega) hq0
    omega
  refine WP.chk ⟨by omega, by omega⟩ fun _ => WP.chk ⟨by omega, by omega⟩ fun _ => WP.chk ⟨by omega, by omega⟩ fun _ => ?_
  refine WP.loop (fun z => 0 ≤ z.1 ∧ z.1 ≤ n ∧ z.2.1.length = n ∧ z.2.2.length = n ∧ (∀ a, inN a n → atD z.2.1 a = if a < z.1 ∧ a + 1 < n then [a + 1] else []) ∧ ∀ a, inN a n → a < z.1 → atD z.2.2 a = q) (fun z => n - z.1.toNat) ⟨Int.le_refl _, by dsimp only; omega, by dsimp only; rw [length_repD]; omega, by dsimp only; rw [length_repD]; omega, fun a ha => by dsimp only; rw [rep27, if_neg (by have := ha.1; omega)]; rfl, fun a ha h => by have := ha.1; dsimp only at h; omega⟩ ?_
  rintro again ⟨i, g, w⟩ ⟨h1, h2, h3, h4, h5, h6⟩ ih
  dsimp only at h1 h2 h3 h4 h5 h6 ih ⊢
  refine WP.bif (fun wh => ?_) (fun wh => ?_) <;> (try simp only [wpH, ne_eq] at wh)
  · have hi : inN i n := ⟨h1, wh⟩
    have hig : inN i g.length := by rw [h3]; exact hi
    have hiw : inN i w.length := by rw [h4]; exact hi
    have hw' : ∀ a, inN a n → a < i + 1 → atD (setD w i q) a = q := fun a ha hlt => by
      rw [atD_setD hiw ha.1]
      by_cases e : a = i
      · rw [if_pos e]
      · rw [if_neg e]; exact h6 a ha (by omega)
    refine WP.chk ⟨by omega, by omega⟩ fun _ => ?_
    refine WP.bif (fun wh => ?_) (fun wh => ?_) <;> (try simp only [wpH, ne_eq] at wh)
    · refine WP.chk ⟨by omega, by omega⟩ fun _ => WP.chk hig fun _ => WP.chk ⟨by decide, by omega, by decide⟩ fun _ => WP.chk hiw fun _ => WP.chk ⟨by omega, by omega⟩ fun _ => ?_
      refine ih _ ⟨by dsimp only; omega, by dsimp only; omega, by dsimp only; rw [length_setD]; exact h3, by dsimp only; rw [length_setD]; exact h4, fun a ha => ?_, hw'⟩ (by dsimp only; omega)
      dsimp only
      rw [atD_setD hig ha.1]
      by_cases e : a = i
      · rw [if_pos e, if_pos (by omega), e]
      · rw [if_neg e, h5 a ha]
        by_cases hlt : a < i ∧ a + 1 < n
        · rw [if_pos hlt, if_pos (by omega)]
        · rw [if_neg hlt, if_neg (by omega)]
    · refine WP.chk ⟨by decide, by omega, by decide⟩ fun _ => WP.chk hiw fun _ => WP.chk ⟨by omega, by omega⟩ fun _ => ?_
      refine ih _ ⟨by dsimp only; omega, by dsimp only; omega, h3, by dsimp only; rw [length_setD]; exact h4, fun a ha => ?_, hw'⟩ (by dsimp only; omega)
      dsimp only
      rw [h5 a ha]
      by_cases hlt : a < i ∧ a + 1 < n
      · rw [if_pos hlt, if_pos (by omega)]
      · rw [if_neg hlt, if_neg (by omega)]
  · have hin : i = n := by omega
    subst hin
    have hl1 : inN ((n : Int) - 1) n := ⟨by omega, by omega⟩
    have hlw : inN ((n : Int) - 1) w.length := by rw [h4]; exact hl1
    have hwl := h6 _ hl1 (by omega)
    rw [hwl]
    refine WP.chk ⟨by omega, by omega⟩ fun _ => WP.chk hlw fun _ => WP.chk (by omega) fun _ => WP.chk ⟨by omega, by omega⟩ fun _ => WP.chk (by decide) fun _ => WP.chk ⟨by omega, by omega⟩ fun _ => WP.chk ⟨by omega, by omega⟩ fun _ => WP.chk hlw fun _ => ?_
    have hrow : ∀ a, inN a n → atD g a = if a + 1 < n then [a + 1] else [] := fun a ha => by
      rw [h5 a ha]
      by_cases hlt : a + 1 < (n : Int)
      · rw [if_pos ⟨ha.2, hlt⟩, if_pos hlt]
      · rw [if_neg (fun h => hlt h.2), if_neg hlt]
    have hg : GrP g := by
      refine ⟨by omega, fun a ha => ?_, fun a ha y hy => ?_⟩
      · rw [h3] at ha
        rw [hrow a ha]
        split
        · rename_i hlt
          exact ⟨by simp, fun x hx => by rw [one_mem hx]; have := ha.1; omega⟩
        · exact IsS.nil
      · rw [h3] at ha
        rw [hrow a ha] at hy
        split at hy
        · rename_i hlt
          rw [one_mem hy, h3]; exact ⟨by have := ha.1; omega, hlt⟩
        · cases hy
    have hup : ∀ a, inN a g.length → ∀ y ∈ atD g a, a < y := fun a ha y hy => by
      rw [h3] at ha
      rw [hrow a ha] at hy
      split at hy
      · rw [one_mem hy]; omega
      · cases hy
    have hac := Acyc.of_up hg hup
    have hwv : ∀ a, inN a n → atD (setD w ((n : Int) - 1) (q + (rr + e))) a = if a = (n : Int) - 1 then q + (rr + e) else q := fun a ha => by
      rw [atD_setD hlw ha.1]
      split
      · rfl
      · exact h6 a ha ha.2
    have hB : BndP g (setD w ((n : Int) - 1) (q + (rr + e))) (chainB n q (q + (rr + e))) := by
      refine ⟨by unfold chainB; simp [h3], fun a ha => ?_⟩
      rw [h3] at ha
      rw [chainB_at ha, hwv a ha, hrow a ha]
      by_cases hlt : a + 1 < (n : Int)
      · rw [if_pos hlt, if_neg (by omega)]
        have ha1 : inN (a + 1) n := ⟨by have := ha.1; omega, hlt⟩
        have hb : bR (chainB n q (q + (rr + e))) [a + 1] = max 0 (atD (chainB n q (q + (rr + e))) (a + 1)) := rfl
        rw [hb, chainB_at ha1]
        have e1 : q * ((n : Int) - 1 - a) = q * ((n : Int) - 1 - (a + 1)) + q := by
          have : (n : Int) - 1 - a = ((n : Int) - 1 - (a + 1)) + 1 := by omega
          rw [this, Int.mul_add, Int.mul_one]
        have hp : 0 ≤ q * ((n : Int) - 1 - (a + 1)) := Int.mul_nonneg hq0 (by omega)
        have hqpos : 1 ≤ q := by
          refine Classical.byContradiction fun hno => ?_
          have : q = 0 := by omega
          rw [this, Int.mul_zero] at hqr
          omega
        omega
      · have e1 : a = (n : Int) - 1 := by have := ha.2; omega
        rw [if_neg hlt, if_pos e1, e1]
        have : (n : Int) - 1 - ((n : Int) - 1) = 0 := by omega
        rw [this, Int.mul_zero]
        show 0 + (q + (rr + e)) = (q + (rr + e)) + 0
        omega
    have h0n : inN 0 n := ⟨Int.le_refl _, by omega⟩
    have hB0 : atD (chainB n q (q + (rr + e))) 0 = 2147483647 + e := by
      rw [chainB_at h0n]
      have : q * ((n : Int) - 1 - 0) = (n : Int) * q - q := by rw [Int.sub_zero, Int.mul_sub, Int.mul_one, Int.mul_comm]
      omega
    have hBle : ∀ a, inN a n → atD (chainB n q (q + (rr + e))) a ≤ 2147483647 + e := fun a ha => by
      rw [← hB0, chainB_at ha, chainB_at h0n]
      have : q * ((n : Int) - 1 - a) ≤ q * ((n : Int) - 1 - 0) := Int.mul_le_mul_of_nonneg_left (by have := ha.1; omega) hq0
      omega
    have hwl' : (setD w ((n : Int) - 1) (q + (rr + e))).length = g.length := by rw [length_setD, h3, h4]
    refine WP.call (all29_sp g _ (by omega) (by omega)) ?_
    rintro ⟨bb, err⟩ hx
    have hqpos : 1 ≤ q ∨ 2147483647 < (n : Int) := by
      refine Classical.byContradiction fun hno => ?_
      have : q = 0 := by omega
      rw [this, Int.mul_zero] at hqr
      omega
    -- what the weights of a right chain are
    have hright : ¬ ((n : Int) = 1 ∧ e = 1) → rightS29 g (setD w ((n : Int) - 1) (q + (rr + e))) = true := fun hno => right_iff.2 ⟨hg, hwl', fun a ha => by
      rw [h3] at ha
      rw [hwv a ha]
      split
      · by_cases hn1 : (n : Int) = 1
        · have hr2 : rr = 0 := by omega
          rw [hn1, Int.one_mul] at hqr
          omega
        · have : 2 * q ≤ (n : Int) * q := Int.mul_le_mul_of_nonneg_right (by omega) hq0
          omega
      · omega⟩
    refine WP.join (fun _ => True) (fun _ _ => ?_) ?_
    · refine WP.loop (fun z => 0 ≤ z.1 ∧ z.1 ≤ sizes.length ∧ (z.2.length : Int) = z.1) (fun z => sizes.length - z.1.toNat) ⟨Int.le_refl _, by dsimp only; omega, rfl⟩ ?_
      rintro again2 ⟨i2, fr⟩ ⟨a1, a2, a3⟩ ih2
      dsimp only at a1 a2 a3 ih2 ⊢
      refine WP.bif (fun wh => ?_) (fun wh => ?_) <;> (try simp only [wpH, ne_eq] at wh)
      · have hi2 : inN i2 sizes.length := ⟨a1, wh⟩
        have := hs _ (atD_mem hi2)
        refine WP.chk (by omega) fun _ => WP.chk hi2 fun _ => WP.chk ⟨by omega, by omega⟩ fun _ => WP.chk (by simp only [List.length_cons, List.length_nil]; omega) fun _ => WP.chk ⟨by omega, by omega⟩ fun _ => ?_
        exact ih2 _ ⟨by dsimp only; omega, by dsimp only; omega, by dsimp only; simp only [List.length_append, List.length_cons, List.length_nil]; omega⟩ (by dsimp only; omega)
      · refine WP.call (weightsA_sp _ (by dsimp only; omega)) ?_
        rintro _ rfl
        refine WP.call (weightsR_sp _ (by dsimp only; omega)) ?_
        rintro _ rfl
        refine WP.call (same_sp _ _ (by rw [List.length_map]; dsimp only; omega)) ?_
        rintro _ rfl
        exact WP.ret (by simp)
    · intro k hk
      have hk := hk () trivial
      refine WP.chk ⟨by omega, by omega⟩ fun _ => WP.chk (by decide) fun _ => ?_
      refine WP.bif (fun wh => ?_) (fun wh => ?_) <;> (try simp only [wpH, ne_eq] at wh)
      · have he1 : e = 1 := by omega
        by_cases hn1 : (n : Int) = 1
        · have hbad : rightS29 g (setD w ((n : Int) - 1) (q + (rr + e))) = false := by
            cases hr : rightS29 g (setD w ((n : Int) - 1) (q + (rr + e))) with
            | false => rfl
            | true =>
              have := (right_iff.1 hr).2.2 0 (by rw [h3]; exact h0n)
              rw [hwv 0 h0n, if_pos (by omega)] at this
              rw [hn1, Int.one_mul] at hqr
              omega
          have := hx.uniq (.bad hbad)
          injection this with e1 e2
          subst e2
          refine WP.bif (fun _ => ?_) (fun wh => absurd wh (by simp))
          refine WP.bif (fun _ => ?_) (fun wh => absurd hn1 (of_decide_eq_false wh))
          exact WP.bif (fun wh => absurd wh (by simp)) (fun _ => hk)
        · have := hx.uniq (.over (hright fun h => hn1 h.1) hac _ hB 0 (by rw [h3]; exact h0n) (by rw [hB0]; omega))
          injection this with e1 e2
          subst e2
          exact WP.bif (fun wh => absurd wh (by simp)) (fun _ => hk)
      · have := hx.uniq (.ok (hright fun h => by omega) hac _ hB fun a ha => by
          rw [h3] at ha
          have := hBle a ha
          omega)
        injection this with e1 e2
        subst e1; subst e2
        refine WP.bif (fun wh => absurd wh (by simp)) (fun _ => ?_)
        have hcl : (chainB n q (q + (rr + e))).length = n := by unfold chainB; simp
        refine WP.bif (fun wh => ?_) (fun _ => ?_)
        · simp only [wpH] at wh; exact absurd (by rw [hcl]) wh
        refine WP.chk ⟨Int.le_refl _, by dsimp only; rw [hcl]; omega⟩ fun _ => WP.chk ⟨by omega, by omega⟩ fun _ => WP.chk (by decide) fun _ => WP.chk ⟨by omega, by omega⟩ fun _ => ?_
        refine WP.bif (fun wh => ?_) (fun _ => hk)
        simp only [wpH] at wh
        exact absurd hB0 wh
end Go.Proofs.YtmefipdgohflmaaDoor.Q
