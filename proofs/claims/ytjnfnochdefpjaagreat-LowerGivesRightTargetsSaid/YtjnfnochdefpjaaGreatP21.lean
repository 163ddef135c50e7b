/- Applying a renaming: what the reference computes is a function again. -/
import Derived.Test.YtjnfnochdefpjaaGreatP19
set_option linter.unusedVariables false
set_option linter.unusedSimpArgs false
namespace Go.Proofs.YtjnfnochdefpjaaGreat.Q
def renN (s : Int) (l : List Int) : Int := if s < 0 ∨ (l.length : Int) ≤ s then s else atD l s
def renI (x : AInstr) (l : List Int) : AInstr := if x.Op = 15 then ⟨x.Op, x.A, renN x.B l, x.C, x.Imm⟩ else if x.Op = 16 then ⟨x.Op, renN x.A l, x.B, x.C, x.Imm⟩ else if x.Op = 17 then ⟨x.Op, renN x.A l, renN x.B l, x.C, x.Imm⟩ else x
theorem renamed15_sp (s : Int) (l : List Int) : WP (r15_renamed s l) (· = renN s l) := by
  unfold r15_renamed renN
  refine WP.bif (fun wh => ?_) (fun wh => ?_) <;> (try simp only [wpH, ne_eq] at wh)
  · exact WP.ret (by rw [if_pos (.inl wh)])
  have h0 := wh
  refine WP.bif (fun wh => ?_) (fun wh => ?_) <;> (try simp only [wpH, ne_eq] at wh)
  · exact WP.ret (by rw [if_pos (.inr wh)])
  refine WP.chk ⟨h0, wh⟩ fun _ => ?_
  exact WP.ret (by rw [if_neg (by omega)])
theorem Renamed15_sp (x : AInstr) (l : List Int) : WP (r15_Renamed x l) (· = renI x l) := by
  unfold r15_Renamed renI
  refine WP.bif (fun wh => ?_) (fun wh => ?_) <;> (try simp only [wpH, ne_eq] at wh)
  · refine WP.call (renamed15_sp _ _) ?_
    rintro _ rfl
    exact WP.ret (by rw [if_pos wh])
  have h15 := wh
  refine WP.bif (fun wh => ?_) (fun wh => ?_) <;> (try simp only [wpH, ne_eq] at wh)
  · refine WP.call (renamed15_sp _ _) ?_
    rintro _ rfl
    exact WP.ret (by rw [if_neg h15, if_pos wh])
  have h16 := wh
  refine WP.bif (fun wh => ?_) (fun wh => ?_) <;> (try simp only [wpH, ne_eq] at wh)
  · refine WP.call (renamed15_sp _ _) ?_
    rintro _ rfl
    refine WP.call (renamed15_sp _ _) ?_
    rintro _ rfl
    exact WP.ret (by rw [if_neg h15, if_neg h16, if_pos wh])
  · exact WP.ret (by rw [if_neg h15, if_neg h16, if_neg wh])
theorem renN_in {s : Int} {l : List Int} (h : inN s l.length) : renN s l = atD l s := by
  unfold renN
  obtain ⟨h1, h2⟩ := h
  rw [if_neg (by omega)]
theorem renI_op (x : AInstr) (l : List Int) : (renI x l).Op = x.Op := by
  unfold renI
  split
  · rfl
  · split
    · rfl
    · split <;> rfl
theorem renI_rem (x : AInstr) (l : List Int) : remB (renI x l) = remB x := by unfold remB; rw [renI_op]
theorem renI_A (x : AInstr) (l : List Int) (h : remB x = true) : (renI x l).A = renN x.A l := by
  unfold remB at h
  simp only [Bool.or_eq_true, decide_eq_true_eq] at h
  unfold renI
  rcases h with h | h
  · rw [if_neg (by omega), if_pos h]
  · rw [if_neg (by omega), if_neg (by omega), if_pos h]
theorem renI_use (x : AInstr) (l : List Int) : useS (renI x l) = if x.Op = 15 ∨ x.Op = 17 then [renN x.B l] else [] := by
  unfold useS
  rw [renI_op]
  split
  · rename_i h
    unfold renI
    rcases h with h | h
    · rw [if_pos h]
    · rw [if_neg (by omega), if_neg (by omega), if_pos h]
  · rfl
def KeepP (f : AFunc) (keep : List Bool) : Prop := keep.length = f.Code.length ∧ ∀ k, inN k f.Code.length → atD keep k = false → remB (atD f.Code k) = true
section
variable {n i par : Int} {f : AFunc}
theorem check21_sp (hf : WfF n i par f) (r : ARename) : WP (r21_Check f r) fun e => (e = 0 ↔ ValidP f r.To ∧ KeepP f r.Keep) := by
  have hc := hf.code
  have hsl := hf.slots
  unfold r21_Check
  refine WP.call (rvalid_sp f _ (by omega)) fun b hb => ?_
  refine WP.bif (fun wh => ?_) (fun wh => ?_)
  · exact WP.ret ⟨fun q => (by simp at q), fun q => (by rw [hb.2 q.1] at wh; cases wh)⟩
  have hv := hb.1 (by simpa using wh)
  refine WP.bif (fun wh => ?_) (fun wh => ?_)
  · rw [Bool.not_eq_true', decide_eq_false_iff_not] at wh
    exact WP.ret ⟨fun q => (by simp at q), fun q => (wh (by rw [q.2.1])).elim⟩
  rw [Bool.not_eq_false', decide_eq_true_eq] at wh
  have hl := wh
  refine WP.loop (fun j => (0 ≤ j ∧ j ≤ f.Code.length) ∧ ∀ k, 0 ≤ k → k < j → atD r.Keep k = false → remB (atD f.Code k) = true) (fun j => f.Code.length - j.toNat) ⟨⟨by omega, by omega⟩, fun k h1 h2 => by exfalso; omega⟩ ?_
  rintro again k ⟨⟨a1, a2⟩, a3⟩ ih
  refine WP.bif (fun wh => ?_) (fun wh => ?_) <;> (try simp only [wpH, ne_eq] at wh)
  · have hkl := wh
    have hgo : (atD r.Keep k = false → remB (atD f.Code k) = true) → WP (again (k + 1)) fun e => (e = 0 ↔ ValidP f r.To ∧ KeepP f r.Keep) := fun hq => by
      refine ih _ ⟨⟨by omega, by omega⟩, fun t h1 h2 => ?_⟩ (by omega)
      by_cases ht : t = k
      · rw [ht]; exact hq
      · exact a3 t h1 (by omega)
    refine WP.chk ⟨a1, by omega⟩ fun _ => ?_
    refine WP.bif (fun wh => ?_) (fun wh => ?_) <;> (try simp only [wpH, ne_eq] at wh)
    · have hkf := wh
      refine WP.chk ⟨a1, hkl⟩ fun _ => ?_
      refine WP.call (removable_sp _) ?_
      rintro _ rfl
      refine WP.bif (fun wh => ?_) (fun wh => ?_) <;> (try simp only [wpH, ne_eq] at wh)
      · exact WP.ret ⟨fun q => (by simp at q), fun q => (by rw [q.2.2 k ⟨a1, hkl⟩ hkf] at wh; cases wh)⟩
      · exact WP.chk ⟨by omega, by omega⟩ fun _ => hgo fun _ => wh
    · exact WP.chk ⟨by omega, by omega⟩ fun _ => hgo fun q => (by rw [wh] at q; cases q)
  · exact WP.ret ⟨fun _ => ⟨hv, by omega, fun k hk => a3 k hk.1 (by have := hk.2; omega)⟩, fun _ => rfl⟩
/-- The slots that the kept instructions use. -/
structure UsedP (f : AFunc) (r : ARename) (m : Int) (u : List Int) : Prop where
  set : IsS u
  lt : ∀ y ∈ u, inN y f.Slots.length
  use : ∀ k, 0 ≤ k → k < m → atD r.Keep k = true → ∀ y ∈ useS (renI (atD f.Code k) r.To), y ∈ u
  dfn : ∀ k, 0 ≤ k → k < m → atD r.Keep k = true → remB (atD f.Code k) = true → (renI (atD f.Code k) r.To).A ∈ u
theorem used21_sp (hf : WfF n i par f) {r : ARename} (hv : ValidP f r.To) (hk : KeepP f r.Keep) : WP (r21_Used f r) (UsedP f r f.Code.length) := by
  have hc := hf.code
  have hsl := hf.slots
  have hkl := hk.1
  have hto := hv.1
  unfold r21_Used
  refine WP.loop (fun j => (0 ≤ j.2 ∧ j.2 ≤ f.Code.length) ∧ UsedP f r j.2 j.1) (fun j => f.Code.length - j.2.toNat) ⟨⟨by simp, by simp⟩, IsS.nil, by simp, fun k h1 h2 => by exfalso; dsimp only at h2; omega, fun k h1 h2 => by exfalso; dsimp only at h2; omega⟩ ?_
  rintro again ⟨u, k⟩ ⟨⟨a1, a2⟩, a3⟩ ih
  dsimp only at a1 a2 a3 ih ⊢
  have hul := a3.set.length
  refine WP.bif (fun wh => ?_) (fun wh => ?_) <;> (try simp only [wpH, ne_eq] at wh)
  · have hkl2 := wh
    have hI := hf.at_ ⟨a1, wh⟩
    refine WP.bif (fun wh => ?_) (fun wh => ?_) <;> (try simp only [wpH, ne_eq] at wh)
    · refine WP.chk ⟨a1, wh⟩ fun _ => ?_
      refine WP.bif (fun wh => ?_) (fun wh => ?_) <;> (try simp only [wpH, ne_eq] at wh)
      · have hkf := wh
        refine WP.chk ⟨by omega, by omega⟩ fun _ => ?_
        refine ih _ ⟨⟨by dsimp only; omega, by dsimp only; omega⟩, a3.set, a3.lt, fun t h1 h2 h3 => ?_, fun t h1 h2 h3 => ?_⟩ (by dsimp only; omega)
        · dsimp only at h2
          by_cases ht : t = k
          · subst ht; rw [hkf] at h3; cases h3
          · exact a3.use t h1 (by omega) h3
        · dsimp only at h2
          by_cases ht : t = k
          · subst ht; rw [hkf] at h3; cases h3
          · exact a3.dfn t h1 (by omega) h3
      · refine WP.chk ⟨a1, hkl2⟩ fun _ => ?_
        refine WP.call (Renamed15_sp _ _) ?_
        rintro _ rfl
        refine WP.call (uses_sp _) ?_
        rintro _ rfl
        have hux : (useS (renI (atD f.Code k) r.To)).length ≤ 1 := by unfold useS; split <;> simp
        have hur : ∀ y ∈ useS (renI (atD f.Code k) r.To), inN y f.Slots.length := fun y hy => by
          rw [renI_use] at hy
          split at hy
          · rename_i h
            rw [one_mem hy]
            have hB := hI.use (y := (atD f.Code k).B) (by unfold useS; rw [if_pos h]; exact List.mem_cons_self)
            rw [renN_in (by rw [hto]; exact hB)]
            have := (hv.2 _ (by rw [hto]; exact hB)).1
            rw [hto] at this; exact this
          · cases hy
        have hdr : remB (atD f.Code k) = true → inN (renI (atD f.Code k) r.To).A f.Slots.length := fun h => by
          have hA := hI.dfn h
          rw [renI_A _ _ h, renN_in (by rw [hto]; exact hA)]
          have := (hv.2 _ (by rw [hto]; exact hA)).1
          rw [hto] at this; exact this
        refine WP.call (union_sp _ _ (by omega)) ?_
        rintro _ rfl
        have hU : IsS (unionS u (useS (renI (atD f.Code k) r.To))) := a3.set.union _
        have hUl := hU.length
        have hUlt : ∀ y ∈ unionS u (useS (renI (atD f.Code k) r.To)), inN y f.Slots.length := fun y hy => by
          rcases mem_unionS.1 hy with h | h
          · exact a3.lt y h
          · exact hur y h.1
        refine WP.call (defines_sp _) ?_
        rintro _ rfl
        rw [renI_rem]
        cases hrem : remB (atD f.Code k) with
        | true =>
          refine WP.bif (fun _ => ?_) (fun q => by cases q)
          refine WP.call (add_sp _ _ (by omega)) ?_
          rintro _ rfl
          obtain ⟨d1, d2⟩ := hdr hrem
          refine WP.chk ⟨by omega, by omega⟩ fun _ => ?_
          refine ih _ ⟨⟨by dsimp only; omega, by dsimp only; omega⟩, hU.add _, fun y hy => ?_, fun t h1 h2 h3 y hy => ?_, fun t h1 h2 h3 h4 => ?_⟩ (by dsimp only; omega)
          · rcases mem_addS.1 hy with h | h
            · exact hUlt y h
            · rw [h.1]; exact ⟨d1, d2⟩
          · dsimp only at h2
            refine mem_addS.2 (.inl (mem_unionS.2 ?_))
            by_cases ht : t = k
            · subst ht
              obtain ⟨e1, e2⟩ := hur y hy
              exact .inr ⟨hy, by omega, by omega⟩
            · exact .inl (a3.use t h1 (by omega) h3 y hy)
          · dsimp only at h2
            by_cases ht : t = k
            · subst ht
              exact mem_addS.2 (.inr ⟨rfl, by simp only [if_true]; omega, by simp only [if_true]; omega⟩)
            · exact mem_addS.2 (.inl (mem_unionS.2 (.inl (a3.dfn t h1 (by omega) h3 h4))))
        | false =>
          refine WP.bif (fun q => by cases q) (fun _ => ?_)
          refine WP.chk ⟨by omega, by omega⟩ fun _ => ?_
          refine ih _ ⟨⟨by dsimp only; omega, by dsimp only; omega⟩, hU, hUlt, fun t h1 h2 h3 y hy => ?_, fun t h1 h2 h3 h4 => ?_⟩ (by dsimp only; omega)
          · dsimp only at h2
            refine mem_unionS.2 ?_
            by_cases ht : t = k
            · subst ht
              obtain ⟨e1, e2⟩ := hur y hy
              exact .inr ⟨hy, by omega, by omega⟩
            · exact .inl (a3.use t h1 (by omega) h3 y hy)
          · dsimp only at h2
            by_cases ht : t = k
            · subst ht; rw [hrem] at h4; cases h4
            · exact mem_unionS.2 (.inl (a3.dfn t h1 (by omega) h3 h4))
    · exfalso; omega
  · refine WP.ret ⟨a3.set, a3.lt, fun t h1 h2 => a3.use t h1 (by omega), fun t h1 h2 => a3.dfn t h1 (by omega)⟩
end
/-- The new numbers. -/
def NumP (to u nums : List Int) : Prop := nums.length = to.length ∧ ∀ s, inN s to.length → atD to s ∈ u → inN (atD nums s) u.length ∧ atD u (atD nums s) = atD to s
theorem numbers21_sp (r : ARename) (u : List Int) (ht : r.To.length ≤ 1000) (hu : u.length ≤ 512) : WP (r21_numbers r u) (NumP r.To u) := by
  unfold r21_numbers
  refine WP.loop (fun j => (0 ≤ j.1 ∧ j.1 ≤ r.To.length) ∧ (j.2.length : Int) = j.1 ∧ ∀ s, 0 ≤ s → s < j.1 → atD r.To s ∈ u → inN (atD j.2 s) u.length ∧ atD u (atD j.2 s) = atD r.To s) (fun j => r.To.length - j.1.toNat) ⟨⟨by simp, by simp⟩, by simp, fun s h1 h2 => by exfalso; dsimp only at h2; omega⟩ ?_
  rintro again ⟨s, out⟩ ⟨⟨a1, a2⟩, a3, a4⟩ ih
  dsimp only at a1 a2 a3 a4 ih ⊢
  refine WP.bif (fun wh => ?_) (fun wh => ?_) <;> (try simp only [wpH, ne_eq] at wh)
  · have hsl := wh
    refine WP.loop (fun j => (0 ≤ j.2 ∧ j.2 ≤ u.length) ∧ ((∃ t, 0 ≤ t ∧ t < j.2 ∧ atD u t = atD r.To s) → inN j.1 u.length ∧ atD u j.1 = atD r.To s)) (fun j => u.length - j.2.toNat) ⟨⟨by simp, by simp⟩, fun ⟨t, h1, h2, _⟩ => by exfalso; dsimp only at h2; omega⟩ ?_
    rintro again2 ⟨m, t⟩ ⟨⟨b1, b2⟩, b3⟩ ih2
    dsimp only at b1 b2 b3 ih2 ⊢
    refine WP.bif (fun wh => ?_) (fun wh => ?_) <;> (try simp only [wpH, ne_eq] at wh)
    · have htl := wh
      refine WP.chk ⟨b1, wh⟩ fun _ => ?_
      refine WP.chk ⟨a1, hsl⟩ fun _ => ?_
      refine WP.bif (fun wh => ?_) (fun wh => ?_) <;> (try simp only [wpH, ne_eq] at wh)
      · refine WP.chk ⟨by omega, by omega⟩ fun _ => ?_
        exact ih2 _ ⟨⟨by dsimp only; omega, by dsimp only; omega⟩, fun _ => ⟨⟨b1, htl⟩, wh⟩⟩ (by dsimp only; omega)
      · refine WP.chk ⟨by omega, by omega⟩ fun _ => ?_
        refine ih2 _ ⟨⟨by dsimp only; omega, by dsimp only; omega⟩, fun ⟨x, h1, h2, h3⟩ => ?_⟩ (by dsimp only; omega)
        dsimp only at h2 ⊢
        by_cases hx : x = t
        · subst hx; exact (wh h3).elim
        · exact b3 ⟨x, h1, by omega, h3⟩
    · refine WP.chk (by simp only [List.length_singleton]; omega) fun _ => ?_
      refine WP.chk ⟨by omega, by omega⟩ fun _ => ?_
      refine ih _ ⟨⟨by dsimp only; omega, by dsimp only; omega⟩, by simp only [List.length_append, List.length_singleton]; omega, fun x h1 h2 h3 => ?_⟩ (by dsimp only; omega)
      dsimp only at h2 ⊢
      by_cases hx : x = s
      · subst hx
        rw [atD_last (by omega)]
        obtain ⟨t', e1, e2, e3⟩ := mem_atD h3
        exact b3 ⟨t', e1, by omega, e3⟩
      · rw [atD_append_left (by omega)]
        exact a4 x h1 (by omega) h3
  · exact WP.ret ⟨by omega, fun s hs => a4 s hs.1 (by have := hs.2; omega)⟩
/-- The kept ones among the first m. -/
def cntK (keep : List Bool) : Nat → Int
  | 0 => 0
  | m + 1 => cntK keep m + (if atD keep m = true then 1 else 0)
theorem cntK_bd (keep : List Bool) : ∀ m, 0 ≤ cntK keep m ∧ cntK keep m ≤ m
  | 0 => by simp [cntK]
  | m + 1 => by
    have := cntK_bd keep m
    unfold cntK
    split <;> omega
theorem cntK_mono (keep : List Bool) {a b : Nat} (h : a ≤ b) : cntK keep a ≤ cntK keep b := by
  induction b with
  | zero => rw [Nat.le_zero.1 h]; exact Int.le_refl _
  | succ b ih =>
    rcases Nat.lt_or_ge a (b + 1) with h1 | h1
    · have := ih (by omega)
      have e : cntK keep (b + 1) = cntK keep b + (if atD keep b = true then 1 else 0) := rfl
      rw [e]; split <;> omega
    · rw [show a = b + 1 by omega]; exact Int.le_refl _
theorem places21_sp (r : ARename) (hl : r.Keep.length ≤ 1000000) : WP (r21_Places r) fun pl => pl.length = r.Keep.length ∧ ∀ k, inN k r.Keep.length → atD pl k = cntK r.Keep k.toNat := by
  unfold r21_Places
  refine WP.loop (fun j => (0 ≤ j.2.1 ∧ j.2.1 ≤ r.Keep.length) ∧ j.1 = cntK r.Keep j.2.1.toNat ∧ (j.2.2.length : Int) = j.2.1 ∧ ∀ k, 0 ≤ k → k < j.2.1 → atD j.2.2 k = cntK r.Keep k.toNat) (fun j => r.Keep.length - j.2.1.toNat) ⟨⟨by simp, by simp⟩, rfl, by simp, fun s h1 h2 => by exfalso; dsimp only at h2; omega⟩ ?_
  rintro again ⟨m, k, out⟩ ⟨⟨a1, a2⟩, a3, a4, a5⟩ ih
  dsimp only at a1 a2 a3 a4 a5 ih ⊢
  have hb := cntK_bd r.Keep k.toNat
  refine WP.bif (fun wh => ?_) (fun wh => ?_) <;> (try simp only [wpH, ne_eq] at wh)
  · have hkl := wh
    have hkn : ((k.toNat : Nat) : Int) = k := Int.toNat_of_nonneg a1
    have hnx : cntK r.Keep (k + 1).toNat = cntK r.Keep k.toNat + (if atD r.Keep k = true then 1 else 0) := by
      rw [show (k + 1).toNat = k.toNat + 1 by omega]
      show cntK r.Keep k.toNat + (if atD r.Keep (k.toNat : Int) = true then 1 else 0) = _
      rw [hkn]
    have hout : ∀ x, 0 ≤ x → x < k + 1 → atD (out ++ [m]) x = cntK r.Keep x.toNat := fun x h1 h2 => by
      by_cases hx : x = k
      · subst hx; rw [atD_last (by omega)]; exact a3
      · rw [atD_append_left (by omega)]; exact a5 x h1 (by omega)
    refine WP.chk (by simp only [List.length_singleton]; omega) fun _ => ?_
    refine WP.chk ⟨a1, wh⟩ fun _ => ?_
    refine WP.bif (fun wh => ?_) (fun wh => ?_)
    · refine WP.chk ⟨by omega, by omega⟩ fun _ => ?_
      refine WP.chk ⟨by omega, by omega⟩ fun _ => ?_
      exact ih _ ⟨⟨by dsimp only; omega, by dsimp only; omega⟩, by dsimp only; rw [hnx, if_pos wh]; omega, by simp only [List.length_append, List.length_singleton]; omega, hout⟩ (by dsimp only; omega)
    · refine WP.chk ⟨by omega, by omega⟩ fun _ => ?_
      exact ih _ ⟨⟨by dsimp only; omega, by dsimp only; omega⟩, by dsimp only; rw [hnx, if_neg (by rw [wh]; simp)]; omega, by simp only [List.length_append, List.length_singleton]; omega, hout⟩ (by dsimp only; omega)
  · exact WP.ret ⟨by omega, fun k hk => a5 k hk.1 (by have := hk.2; omega)⟩
end Go.Proofs.YtjnfnochdefpjaaGreat.Q
