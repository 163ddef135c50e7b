/- Rewriting: the laws. -/
import Derived.Test.YtlhaoijkffhafaaDoorP21e
set_option linter.unusedVariables false
set_option linter.unusedSimpArgs false
namespace Go.Proofs.YtlhaoijkffhafaaDoor.Q
section
variable {n i par : Int} {f : AFunc}
theorem mem_codeOf {keep : List Bool} {nums pl : List Int} {x : AInstr} : ∀ {m : Nat}, x ∈ codeOf f keep nums pl m → ∃ k, inN k m ∧ atD keep k = true ∧ x = retI (renI (atD f.Code k) nums) pl
  | 0, h => by cases h
  | m + 1, h => by
    unfold codeOf at h
    rcases List.mem_append.1 h with h | h
    · obtain ⟨k, ⟨h1, h2⟩, h3⟩ := mem_codeOf h
      exact ⟨k, ⟨h1, by omega⟩, h3⟩
    · split at h
      · rename_i hk
        exact ⟨m, ⟨by omega, by omega⟩, hk, one_mem h⟩
      · cases h
theorem retI_op (x : AInstr) (pl : List Int) : (retI x pl).Op = x.Op := by
  unfold retI
  split
  · rfl
  · split <;> rfl
theorem foldl_aln (g : Int → Int) : ∀ (l : List Int) (a : Int), alnR a → (∀ x ∈ l, alnR (g x)) → alnR (l.foldl (fun b x => max b (g x)) a)
  | [], a, h, _ => h
  | y :: l, a, h, h2 => foldl_aln g l _ (h.max (h2 y List.mem_cons_self)) fun x hx => h2 x (List.mem_cons_of_mem _ hx)
theorem slots_at {r : ARename} {t : Int} (ht : inN t (usedS f r).length) : atD ((usedS f r).map (slotOf f r.To)) t = slotOf f r.To (atD (usedS f r) t) := by
  obtain ⟨t1, t2⟩ := ht
  have h3 : t.toNat < ((usedS f r).map (slotOf f r.To)).length := by rw [List.length_map]; omega
  have h4 := atD_nat h3
  rw [Int.toNat_of_nonneg t1] at h4
  have h5 := atD_nat (l := usedS f r) (i := t.toNat) (by omega)
  rw [Int.toNat_of_nonneg t1] at h5
  rw [h4, List.getElem_map, h5]
theorem appF_wf (hf : WfF n i par f) {r : ARename} (hv : ValidP f r.To) (hk : KeepP f r.Keep) {nums : List Int} (hN : NumP r.To (usedS f r) nums) : WfF n i par (appF f r nums) := by
  have hc := hf.code
  have hsl := hf.slots
  have hto := hv.1
  have hU := usedS_U hf hv hk
  have hul := asc_short hU.set hU.lt
  obtain ⟨k1, k2, k3⟩ := keep_facts hf hk
  have hb := cntK_bd r.Keep (f.Code.length - 1)
  have hb2 := cntK_bd r.Keep f.Code.length
  have hcl := codeOf_length (f := f) r.Keep nums (plL r.Keep) f.Code.length
  refine ⟨hf.parq, ?_, fun s hs => ?_, ⟨?_, ?_⟩, fun x hx => ?_, ?_⟩
  · show ((usedS f r).map _).length ≤ 6
    rw [List.length_map]; omega
  · obtain ⟨y, hy, rfl⟩ := List.mem_map.1 hs
    have hr0 := hf.rightS _ (atD_mem (hU.lt y hy))
    refine ⟨hr0.1, foldl_aln _ _ _ hr0.aln fun x hx => ?_⟩
    have := (mem_membS.1 hx).1
    rw [hto] at this
    exact (hf.rightS _ (atD_mem this)).aln
  · show 1 ≤ (codeOf f r.Keep nums (plL r.Keep) f.Code.length).length
    omega
  · show (codeOf f r.Keep nums (plL r.Keep) f.Code.length).length ≤ 800
    omega
  · obtain ⟨k, hk1, hk2, rfl⟩ := mem_codeOf hx
    have hsz : ∀ t, inN t (usedS f r).length → (atD ((usedS f r).map (slotOf f r.To)) t).Size = (atD f.Slots (atD (usedS f r) t)).Size := fun t ht => by rw [slots_at ht]; rfl
    have := ren_wf (m := cntK r.Keep f.Code.length) hf hv hU hN (sl := (usedS f r).map (slotOf f r.To)) (List.length_map ..) hsz k3 hk1 hk2
    show WfI n i par _ (fun t => inN t ((codeOf f r.Keep nums (plL r.Keep) f.Code.length).length : Int)) _
    rw [hcl]
    exact this
  · show (atD (codeOf f r.Keep nums (plL r.Keep) f.Code.length) (((codeOf f r.Keep nums (plL r.Keep) f.Code.length).length : Int) - 1)).Op = 23 ∨ (atD (codeOf f r.Keep nums (plL r.Keep) f.Code.length) (((codeOf f r.Keep nums (plL r.Keep) f.Code.length).length : Int) - 1)).Op = 24
    rw [hcl]
    obtain ⟨⟨q1, q2⟩, q3, q4, q5⟩ := kept_at (f := f) (keep := r.Keep) (nums := nums) (pl := plL r.Keep) (m := f.Code.length) (t := cntK r.Keep f.Code.length - 1) ⟨by omega, by omega⟩
    have hkl : atD (keptL r.Keep f.Code.length) (cntK r.Keep f.Code.length - 1) = (f.Code.length : Int) - 1 := by
      generalize atD (keptL r.Keep f.Code.length) (cntK r.Keep f.Code.length - 1) = x at *
      have hn : ¬ x < (f.Code.length : Int) - 1 := fun hx => by
        have h1 := cntK_mono r.Keep (a := x.toNat + 1) (b := f.Code.length - 1) (by omega)
        rw [cntK_succ, Int.toNat_of_nonneg q1, if_pos q3] at h1
        omega
      omega
    rw [q5, retI_op, renI_op, hkl]
    exact hf.last
theorem appF_len (hf : WfF n i par f) (r : ARename) (nums : List Int) : (appF f r nums).Code.length ≤ 800 ∧ (appF f r nums).Slots.length ≤ 512 := by
  have hc := hf.code
  have hcl := codeOf_length (f := f) r.Keep nums (plL r.Keep) f.Code.length
  have hb := cntK_bd r.Keep f.Code.length
  have hu := (IsS.usedS f r).length
  constructor
  · show (codeOf f r.Keep nums (plL r.Keep) f.Code.length).length ≤ 800
    omega
  · show ((usedS f r).map _).length ≤ 512
    rw [List.length_map]; exact hu
end
theorem pl_RewriteApply (cs : List Int) (raw : ARename) (h : isU8 cs) : WP (law21_RewriteApply cs raw) (· = true) := by
  unfold law21_RewriteApply
  refine WP.call awake21_sp ?_
  rintro _ rfl
  refine WP.bif (fun wh => by cases wh) fun _ => ?_
  refine WP.bif (fun _ => WP.ret rfl) fun wh => ?_
  rw [decide_eq_false_iff_not] at wh
  have hr1 := wh
  refine WP.bif (fun wh => WP.ret wh) fun wh => ?_
  rw [decide_eq_false_iff_not] at wh
  refine WP.call (scene21_sp cs h) fun x3 ⟨hp, hi, hl1, hl2⟩ => ?_
  have hf := hp.func _ hi.1 hi.2
  refine WP.chk hi fun _ => ?_
  generalize atD x3.1.Funcs x3.2.1 = f at *
  have hc := hf.code
  have hsl := hf.slots
  refine WP.call (plain21_sp f (by omega) (by omega)) ?_
  rintro _ rfl
  generalize hL : ([x3.2.2.1, raw, plainR f] : List ARename) = L
  have hlen : L.length = 3 := by rw [← hL]; rfl
  have hb : ∀ t ∈ L, t.Keep.length ≤ 1000000 := by
    rw [← hL]
    intro t ht
    simp only [List.mem_cons, List.not_mem_nil, or_false] at ht
    rcases ht with rfl | rfl | rfl
    · omega
    · omega
    · simp [plainR, trueL]; omega
  clear hL
  refine WP.loop (fun j => 0 ≤ j ∧ j ≤ 3) (fun j => 3 - j.toNat) ⟨by omega, by omega⟩ ?_
  rintro again k ⟨a1, a2⟩ ih
  refine WP.bif (fun wh => ?_) (fun _ => WP.ret rfl) <;> (try simp only [decide_eq_true_eq, decide_eq_false_iff_not, Bool.not_eq_true', Bool.not_eq_false', Bool.and_eq_true, Bool.or_eq_true, Bool.not_eq_true, Bool.not_eq_false, Int.not_lt, Int.not_le, ne_eq] at wh)
  refine WP.chk ⟨by omega, by omega⟩ fun _ => ?_
  have hbk := hb _ (atD_mem (l := L) (i := k) ⟨by omega, by omega⟩)
  generalize atD L k = r at *
  refine WP.call (rwapply_sp hf r) fun x6 ⟨g1, g2⟩ => ?_
  refine WP.call (rapplyX_sp hf r) fun x7 ⟨g3, g4⟩ => ?_
  have e : x6 = x7 ∧ x6.1.Code.length ≤ 1000000 ∧ x6.1.Slots.length ≤ 1000000 := by
    by_cases hvk : ValidP f r.To ∧ KeepP f r.Keep
    · obtain ⟨p1, p2⟩ := g1 hvk
      obtain ⟨p3, p4⟩ := g3 hvk
      refine ⟨Prod.ext (p2.uniq hf hvk.1 hvk.2 p4) (by rw [p1, p3]), ?_⟩
      obtain ⟨nums, _, e⟩ := p2
      have := appF_len hf r nums
      rw [e]
      omega
    · rw [g2 hvk, g4 hvk]; simp
  obtain ⟨rfl, e1, e2⟩ := e
  refine WP.bif (fun wh => by simp at wh) fun _ => ?_
  refine WP.call (sameFunc_sp _ e1 e2) ?_
  rintro _ rfl
  refine WP.bif (fun wh => by cases wh) fun _ => ?_
  refine WP.call (rwcheck_sp hf r) fun x9 ⟨c1, c2⟩ => ?_
  refine WP.call (check21X_sp hf r) fun x10 ⟨c3, c4⟩ => ?_
  have e : x9 = x10 := by
    by_cases hvk : ValidP f r.To ∧ KeepP f r.Keep
    · rw [c1 hvk, c3 hvk]
    · rw [c2 hvk, c4 hvk]
  subst e
  refine WP.bif (fun wh => by simp at wh) fun _ => ?_
  refine WP.call (rwplaces_sp r hbk) ?_
  intro x hx
  rw [hx]
  clear hx x
  refine WP.call (rplaces_sp r hbk) ?_
  intro x hx
  rw [hx]
  clear hx x
  refine WP.call (same_sp _ _ (by rw [plL_len]; omega)) ?_
  intro x hx
  rw [hx]
  clear hx x
  refine WP.bif (fun wh => by simp at wh) fun _ => ?_
  refine WP.call (rwused_sp f r (by omega)) ?_
  intro x hx
  rw [hx]
  clear hx x
  refine WP.call (rusedX_sp f r (by omega)) ?_
  intro x hx
  rw [hx]
  clear hx x
  refine WP.call (same_sp _ _ (by have := (IsS.usedS f r).length; omega)) ?_
  intro x hx
  rw [hx]
  clear hx x
  refine WP.bif (fun wh => by simp at wh) fun _ => ?_
  refine WP.chk ⟨by omega, by omega⟩ fun _ => ?_
  exact ih _ ⟨by omega, by omega⟩ (by omega)
theorem pl_RewriteIdentity (cs : List Int) (h : isU8 cs) : WP (law21_RewriteIdentity cs) (· = true) := by
  unfold law21_RewriteIdentity
  refine WP.call awake21_sp ?_
  rintro _ rfl
  refine WP.bif (fun wh => by cases wh) fun _ => ?_
  refine WP.call (scene21_sp cs h) fun x2 ⟨hp, hi, hl1, hl2⟩ => ?_
  have hf := hp.func _ hi.1 hi.2
  refine WP.chk hi fun _ => ?_
  generalize atD x2.1.Funcs x2.2.1 = f at *
  have hc := hf.code
  have hsl := hf.slots
  refine WP.call (plain21_sp f (by omega) (by omega)) ?_
  rintro _ rfl
  refine WP.call (rwapply_sp hf _) fun x4 ⟨g1, _⟩ => ?_
  obtain ⟨g1, g2⟩ := g1 (plain_valid f)
  obtain ⟨nums, hN, e⟩ := g2
  have hg := appF_wf hf (plain_valid f).1 (plain_valid f).2 hN
  rw [← e] at hg
  have hgc := hg.code
  have hgs := hg.slots
  refine WP.call (plain21_sp x4.1 (by omega) (by omega)) ?_
  rintro _ rfl
  refine WP.call (rwapply_sp hg _) fun x6 ⟨g3, _⟩ => ?_
  obtain ⟨g3, g4⟩ := g3 (plain_valid x4.1)
  have e2 : x6.1 = x4.1 := by
    obtain ⟨nums2, hN2, e2⟩ := g4
    rw [e2]
    rw [e] at hg hN2 ⊢
    exact plain_twice hf hN hg hN2
  rw [g1, g3, e2]
  refine WP.bif (fun wh => by simp at wh) fun _ => ?_
  refine WP.bif (fun wh => by simp at wh) fun _ => ?_
  refine WP.call (sameFunc_sp _ (by omega) (by omega)) ?_
  rintro _ rfl
  refine WP.bif (fun wh => by cases wh) fun _ => ?_
  have hgcode : x4.1.Code = (iotaL f.Code.length).map fun k => retI (renI (atD f.Code k) nums) (plL (trueL f.Code.length)) := by
    rw [e]
    show codeOf f (trueL f.Code.length) nums (plL (trueL f.Code.length)) f.Code.length = _
    exact codeOf_true (Nat.le_refl _)
  have hgl : x4.1.Code.length = f.Code.length := by rw [hgcode, List.length_map, iotaL_len]
  refine WP.bif (fun wh => by exfalso; simp [hgl] at wh) fun _ => ?_
  refine WP.call (plain21_sp f (by omega) (by omega)) ?_
  rintro _ rfl
  refine WP.call (rwused_sp f _ (by omega)) ?_
  intro x hx
  rw [hx]
  clear hx x
  have hsl2 : x4.1.Slots.length = (usedS f (plainR f)).length := by rw [e]; exact List.length_map ..
  refine WP.bif (fun wh => by exfalso; simp [hsl2] at wh) fun _ => ?_
  have hgat : ∀ k, inN k f.Code.length → atD x4.1.Code k = renI (atD f.Code k) nums := fun k hk => by
    obtain ⟨k1, k2⟩ := hk
    rw [hgcode]
    have h3 : k.toNat < ((iotaL f.Code.length).map fun k => retI (renI (atD f.Code k) nums) (plL (trueL f.Code.length))).length := by rw [List.length_map, iotaL_len]; omega
    have h4 := atD_nat h3
    rw [Int.toNat_of_nonneg k1] at h4
    rw [h4, List.getElem_map]
    simp only [iotaL, List.getElem_map, List.getElem_range, Int.toNat_of_nonneg k1]
    exact retI_plain hf ⟨k1, k2⟩ nums
  refine WP.loop (fun j => 0 ≤ j ∧ j ≤ f.Code.length) (fun j => f.Code.length - j.toNat) ⟨by omega, by omega⟩ ?_
  rintro again k ⟨a1, a2⟩ ih
  refine WP.bif (fun wh => ?_) (fun _ => WP.ret rfl) <;> (try simp only [decide_eq_true_eq, decide_eq_false_iff_not, Bool.not_eq_true', Bool.not_eq_false', Bool.and_eq_true, Bool.or_eq_true, Bool.not_eq_true, Bool.not_eq_false, Int.not_lt, Int.not_le, ne_eq] at wh)
  have hkl := wh
  have hgo : WP (M.chk (okI (k + 1)) (again (k + 1))) (· = true) := WP.chk ⟨by omega, by omega⟩ fun _ => ih _ ⟨by omega, by omega⟩ (by omega)
  rw [hgat k ⟨a1, hkl⟩, hgl]
  refine WP.chk ⟨a1, hkl⟩ fun _ => ?_
  refine WP.chk ⟨a1, hkl⟩ fun _ => ?_
  rw [renI_op]
  refine WP.bif (fun wh => by simp at wh) fun _ => ?_
  refine WP.chk ⟨a1, hkl⟩ fun _ => ?_
  refine WP.chk ⟨a1, hkl⟩ fun _ => ?_
  have himm : (renI (atD f.Code k) nums).Imm = (atD f.Code k).Imm := by
    unfold renI
    split
    · rfl
    · split
      · rfl
      · split <;> rfl
  rw [himm]
  refine WP.bif (fun wh => by simp at wh) fun _ => ?_
  refine WP.chk ⟨a1, hkl⟩ fun _ => ?_
  refine WP.call (removable_sp _) ?_
  rintro _ rfl
  refine WP.bif (fun wh => ?_) fun _ => hgo
  have hr := wh
  refine WP.chk ⟨a1, hkl⟩ fun _ => ?_
  refine WP.bif (fun wh => ?_) fun _ => hgo
  have h15 := wh
  refine WP.chk ⟨a1, hkl⟩ fun _ => ?_
  refine WP.chk ⟨a1, hkl⟩ fun _ => ?_
  have hsame : renI (atD f.Code k) nums = atD f.Code k := by
    unfold remB at hr
    simp at hr h15
    unfold renI
    rw [if_neg h15, if_neg hr.1, if_neg hr.2]
  rw [hsame]
  exact WP.bif (fun wh => by simp at wh) fun _ => hgo
theorem pl_RewriteKeepsAlignments (cs : List Int) (h : isU8 cs) : WP (law21_RewriteKeepsAlignments cs) (· = true) := by
  unfold law21_RewriteKeepsAlignments
  refine WP.call awake21_sp ?_
  rintro _ rfl
  refine WP.bif (fun wh => by cases wh) fun _ => ?_
  refine WP.call (scene21_sp cs h) fun x2 ⟨hp, hi, hl1, hl2⟩ => ?_
  have hf := hp.func _ hi.1 hi.2
  refine WP.chk hi fun _ => ?_
  generalize atD x2.1.Funcs x2.2.1 = f at *
  generalize x2.2.2.1 = r at *
  have hc := hf.code
  have hsl := hf.slots
  refine WP.call (rwapply_sp hf r) fun x3 ⟨g1, g2⟩ => ?_
  by_cases hvk : ValidP f r.To ∧ KeepP f r.Keep
  case neg =>
    rw [g2 hvk]
    refine WP.bif (fun _ => ?_) (fun wh => by simp at wh)
    refine WP.call (check21X_sp hf r) fun x4 ⟨_, c2⟩ => ?_
    rw [c2 hvk]
    exact WP.ret (by simp)
  obtain ⟨g1, nums, hN, e⟩ := g1 hvk
  obtain ⟨hv, hk⟩ := hvk
  rw [g1, e]
  refine WP.bif (fun wh => by simp at wh) (fun _ => ?_)
  refine WP.call (rwused_sp f r (by omega)) ?_
  intro x hx
  rw [hx]
  clear hx x
  have hsl2 : (appF f r nums).Slots.length = (usedS f r).length := List.length_map ..
  have hul := (IsS.usedS f r).length
  refine WP.bif (fun wh => by exfalso; simp [hsl2] at wh) fun _ => ?_
  refine WP.loop (fun j => 0 ≤ j ∧ j ≤ f.Slots.length) (fun j => f.Slots.length - j.toNat) ⟨by omega, by omega⟩ ?_
  rintro again s ⟨a1, a2⟩ ih
  refine WP.bif (fun wh => ?_) (fun _ => WP.ret rfl) <;> (try simp only [decide_eq_true_eq, decide_eq_false_iff_not, Bool.not_eq_true', Bool.not_eq_false', Bool.and_eq_true, Bool.or_eq_true, Bool.not_eq_true, Bool.not_eq_false, Int.not_lt, Int.not_le, ne_eq] at wh)
  have hsl3 := wh
  refine WP.loop (fun j => 0 ≤ j ∧ j ≤ (usedS f r).length) (fun j => (usedS f r).length - j.toNat) ⟨by omega, by omega⟩ ?_
  rintro again2 t ⟨b1, b2⟩ ih2
  refine WP.bif (fun wh => ?_) (fun wh => ?_) <;> (try simp only [decide_eq_true_eq, decide_eq_false_iff_not, Bool.not_eq_true', Bool.not_eq_false', Bool.and_eq_true, Bool.or_eq_true, Bool.not_eq_true, Bool.not_eq_false, Int.not_lt, Int.not_le, ne_eq] at wh)
  · have htl := wh
    have hgo : WP (M.chk (okI (t + 1)) (again2 (t + 1))) (· = true) := WP.chk ⟨by omega, by omega⟩ fun _ => ih2 _ ⟨by omega, by omega⟩ (by omega)
    refine WP.chk ⟨a1, by omega⟩ fun _ => ?_
    refine WP.chk ⟨b1, htl⟩ fun _ => ?_
    refine WP.bif (fun wh => ?_) fun _ => hgo
    rw [decide_eq_true_eq] at wh
    have hat : atD (appF f r nums).Slots t = slotOf f r.To (atD (usedS f r) t) := slots_at ⟨b1, htl⟩
    have hvs := hv.2 s ⟨a1, by omega⟩
    rw [hat, hsl2]
    refine WP.chk ⟨b1, htl⟩ fun _ => ?_
    refine WP.chk ⟨a1, hsl3⟩ fun _ => ?_
    refine WP.bif (fun wh2 => ?_) fun _ => ?_
    · exfalso
      rw [Bool.not_eq_true', decide_eq_false_iff_not] at wh2
      unfold slotOf at wh2
      dsimp only at wh2
      rw [← wh] at wh2
      exact wh2 hvs.2.1
    refine WP.chk ⟨b1, htl⟩ fun _ => ?_
    refine WP.chk ⟨a1, hsl3⟩ fun _ => ?_
    refine WP.bif (fun wh2 => ?_) fun _ => hgo
    exfalso
    rw [decide_eq_true_eq] at wh2
    unfold slotOf at wh2
    dsimp only at wh2
    have := (foldl_max_ge (fun t => (atD f.Slots t).Align) (membS r.To (atD (usedS f r) t)) (atD f.Slots (atD (usedS f r) t)).Align).2 s (mem_membS.2 ⟨⟨a1, by omega⟩, wh⟩)
    omega
  · refine WP.chk ⟨by omega, by omega⟩ fun _ => ?_
    exact ih _ ⟨by omega, by omega⟩ (by omega)
theorem pl_RewriteTargets (cs : List Int) (h : isU8 cs) : WP (law21_RewriteTargets cs) (· = true) := by
  unfold law21_RewriteTargets
  refine WP.call awake21_sp ?_
  rintro _ rfl
  refine WP.bif (fun wh => by cases wh) fun _ => ?_
  refine WP.call (scene21_sp cs h) fun x2 ⟨hp, hi, hl1, hl2⟩ => ?_
  have hf := hp.func _ hi.1 hi.2
  refine WP.chk hi fun _ => ?_
  generalize atD x2.1.Funcs x2.2.1 = f at *
  generalize x2.2.2.1 = r at *
  have hc := hf.code
  have hsl := hf.slots
  refine WP.call (rwapply_sp hf r) fun x3 ⟨g1, g2⟩ => ?_
  by_cases hvk : ValidP f r.To ∧ KeepP f r.Keep
  case neg =>
    rw [g2 hvk]
    refine WP.bif (fun _ => ?_) (fun wh => by simp at wh)
    refine WP.call (check21X_sp hf r) fun x4 ⟨_, c2⟩ => ?_
    rw [c2 hvk]
    exact WP.ret (by simp)
  obtain ⟨g1, nums, hN, e⟩ := g1 hvk
  obtain ⟨hv, hk⟩ := hvk
  rw [g1, e]
  refine WP.bif (fun wh => by simp at wh) (fun _ => ?_)
  obtain ⟨hlast, htot, hpl⟩ := keep_facts hf hk
  have hcl : ((appF f r nums).Code.length : Int) = cntK r.Keep f.Code.length := codeOf_length (f := f) r.Keep nums (plL r.Keep) f.Code.length
  have hkl := keptL_length r.Keep f.Code.length
  have hbd := cntK_bd r.Keep f.Code.length
  refine WP.loop (fun j => ∃ m : Nat, j.1 = m ∧ m ≤ f.Code.length ∧ j.2 = keptL r.Keep m) (fun j => f.Code.length - j.1.toNat) ⟨0, rfl, by omega, rfl⟩ ?_
  rintro again ⟨k, K⟩ ⟨m, b1, b2, b3⟩ ih
  dsimp only at b1 b3 ih ⊢
  subst b1
  have hKl := keptL_length r.Keep m
  have hKb := cntK_bd r.Keep m
  rw [← b3] at hKl
  refine WP.bif (fun wh => ?_) (fun wh => ?_) <;> (try simp only [decide_eq_true_eq, decide_eq_false_iff_not, Bool.not_eq_true', Bool.not_eq_false', Bool.and_eq_true, Bool.or_eq_true, Bool.not_eq_true, Bool.not_eq_false, Int.not_lt, Int.not_le, ne_eq] at wh)
  · refine WP.chk ⟨by omega, by omega⟩ fun _ => ?_
    refine WP.bif (fun wh => ?_) (fun wh => ?_)
    · refine WP.chk (by simp only [List.length_singleton]; omega) fun _ => ?_
      refine WP.chk ⟨by omega, by omega⟩ fun _ => ?_
      refine ih _ ⟨m + 1, by simp, by omega, ?_⟩ (by dsimp only; omega)
      dsimp only
      rw [keptL, if_pos wh, b3]
    · refine WP.chk ⟨by omega, by omega⟩ fun _ => ?_
      refine ih _ ⟨m + 1, by simp, by omega, ?_⟩ (by dsimp only; omega)
      dsimp only
      rw [keptL, wh, b3]
      simp
  · have hm : m = f.Code.length := by omega
    subst hm
    rw [← b3] at hkl
    refine WP.bif (fun wh => by exfalso; rw [Bool.not_eq_true', decide_eq_false_iff_not] at wh; omega) fun _ => ?_
    refine WP.loop (fun j => 0 ≤ j ∧ j ≤ K.length) (fun j => K.length - j.toNat) ⟨by omega, by omega⟩ ?_
    rintro again2 t ⟨d1, d2⟩ ih2
    refine WP.bif (fun wh => ?_) (fun _ => WP.ret rfl) <;> (try simp only [decide_eq_true_eq, decide_eq_false_iff_not, Bool.not_eq_true', Bool.not_eq_false', Bool.and_eq_true, Bool.or_eq_true, Bool.not_eq_true, Bool.not_eq_false, Int.not_lt, Int.not_le, ne_eq] at wh)
    have htl := wh
    have hgo : WP (M.chk (okI (t + 1)) (again2 (t + 1))) (· = true) := WP.chk ⟨by omega, by omega⟩ fun _ => ih2 _ ⟨by omega, by omega⟩ (by omega)
    obtain ⟨q1, q2, q3, q4⟩ := kept_at (f := f) (keep := r.Keep) (nums := nums) (pl := plL r.Keep) (m := f.Code.length) (t := t) ⟨d1, by omega⟩
    rw [← b3] at q1 q2 q3 q4
    have hcode : atD (appF f r nums).Code t = retI (renI (atD f.Code (atD K t)) nums) (plL r.Keep) := q4
    obtain ⟨j1, j2⟩ := jump_in hf q1
    refine WP.chk ⟨d1, htl⟩ fun _ => ?_
    refine WP.chk q1 fun _ => ?_
    refine WP.chk ⟨d1, by omega⟩ fun _ => ?_
    rw [hcode]
    generalize hx : atD f.Code (atD K t) = x at *
    -- what a jump to old becomes
    have hdone : ∀ old : Int, inN old f.Code.length → ∀ at_, at_ = atD (plL r.Keep) old → WP (M.bif (decide (at_ < 0)) (M.ret false) (M.bif (decide ((K.length : Int) ≤ at_)) (M.ret false) (M.chk ((0 : Int) ≤ at_ ∧ at_ < (K.length : Int)) <| M.bif (decide ((atD K at_) < old)) (M.ret false) (M.bif (decide (0 < at_)) (M.chk (okI (at_ - 1)) <| M.chk ((0 : Int) ≤ (at_ - 1) ∧ (at_ - 1) < (K.length : Int)) <| M.bif (decide (old ≤ (atD K (at_ - 1)))) (M.ret false) (M.chk (okI (t + 1)) <| again2 (t + 1))) (M.chk (okI (t + 1)) <| again2 (t + 1)))))) (· = true) := fun old ho at_ hat => by
      obtain ⟨p1, p2⟩ := hpl old ho
      rw [← hat] at p1 p2
      have hc : at_ = cntK r.Keep old.toNat := by rw [hat, plL_at (by have := ho.1; have := ho.2; have := hk.1; exact ⟨by omega, by omega⟩)]
      have ho1 := (kept_order (keep := r.Keep) (m := f.Code.length) (t := at_) (k := old) ⟨p1, p2⟩ ho.1).2 (by omega)
      rw [← b3] at ho1
      refine WP.bif (fun wh => by exfalso; rw [decide_eq_true_eq] at wh; omega) fun _ => ?_
      refine WP.bif (fun wh => by exfalso; rw [decide_eq_true_eq] at wh; omega) fun _ => ?_
      refine WP.chk ⟨by omega, by omega⟩ fun _ => ?_
      refine WP.bif (fun wh => by exfalso; rw [decide_eq_true_eq] at wh; omega) fun _ => ?_
      refine WP.bif (fun wh => ?_) fun _ => hgo
      rw [decide_eq_true_eq] at wh
      have ho2 := (kept_order (keep := r.Keep) (m := f.Code.length) (t := at_ - 1) (k := old) ⟨by omega, by omega⟩ ho.1).1 (by omega)
      rw [← b3] at ho2
      refine WP.chk ⟨by omega, by omega⟩ fun _ => ?_
      refine WP.chk ⟨by omega, by omega⟩ fun _ => ?_
      exact WP.bif (fun wh => by exfalso; rw [decide_eq_true_eq] at wh; omega) fun _ => hgo
    refine WP.join (fun j => (x.Op = 21 → j = (x.B, atD (plL r.Keep) x.B)) ∧ (x.Op = 20 → j = (x.A, atD (plL r.Keep) x.A))) ?_ ?_
    · rintro ⟨old, at_⟩ ⟨e1, e2⟩
      dsimp only
      refine WP.join (fun _ => x.Op = 20 ∨ x.Op = 21) ?_ ?_
      · rintro ⟨⟩ hop
        rcases hop with hop | hop
        · have e := e2 hop
          injection e with e3 e4
          subst e3 e4
          exact hdone _ (j1 hop) _ rfl
        · have e := e1 hop
          injection e with e3 e4
          subst e3 e4
          exact hdone _ (j2 hop) _ rfl
      · intro k3 hk3
        refine WP.bif (fun wh => ?_) (fun wh => hk3 () (.inl (by simpa using wh)))
        exact WP.bif (fun _ => hgo) (fun wh => hk3 () (.inr (by simpa using wh)))
    · intro k2 hk2
      refine WP.bif (fun wh => ?_) (fun wh => ?_) <;> (try simp only [decide_eq_true_eq, decide_eq_false_iff_not, Bool.not_eq_true', Bool.not_eq_false', Bool.and_eq_true, Bool.or_eq_true, Bool.not_eq_true, Bool.not_eq_false, Int.not_lt, Int.not_le, ne_eq] at wh)
      · refine hk2 _ ⟨fun _ => ?_, fun q => by omega⟩
        have e : renI x nums = x := renI_jump x nums (.inr wh)
        rw [e]
        unfold retI
        rw [if_neg (by omega), if_pos wh]
      · refine hk2 _ ⟨fun q => (wh q).elim, fun q => ?_⟩
        have e : renI x nums = x := renI_jump x nums (.inl q)
        rw [e]
        unfold retI
        rw [if_pos q]
end Go.Proofs.YtlhaoijkffhafaaDoor.Q
