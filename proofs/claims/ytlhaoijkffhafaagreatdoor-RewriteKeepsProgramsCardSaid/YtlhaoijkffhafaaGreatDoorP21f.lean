/- Rewriting: the laws. -/
import Derived.Test.YtlhaoijkffhafaaGreatDoorP21e
set_option linter.unusedVariables false
set_option linter.unusedSimpArgs false
namespace Go.Proofs.YtlhaoijkffhafaaGreatDoor.Q
section
variable {n i par : Int} {f : AFunc}
theorem mem_codeOf {keep : List Bool} {nums pl : List Int} {x : AInstr} : ∀ {m : Nat}, x ∈ codeOf f keep nums pl m → ∃ k, inN k m ∧ atD keep k = true ∧ x = retI (renI (atD f.Code k) nums) pl
  | 0, h => by cases h
  | m + 1, h => by
    unfold codeOf at h
    rcases List.mem_append.1 h with h | h
    · obtain ⟨k, ⟨h1, h2⟩, h3⟩ := mem_codeOf h
      exact ⟨k, ⟨h1, by omega⟩, h3⟩
    · split at h
      · rename_i hk
        exact ⟨m, ⟨by omega, by omega⟩, hk, one_mem h⟩
      · cases h
theorem retI_op (x : AInstr) (pl : List Int) : (retI x pl).Op = x.Op := by
  unfold retI
  split
  · rfl
  · split <;> rfl
theorem foldl_aln (g : Int → Int) : ∀ (l : List Int) (a : Int), alnR a → (∀ x ∈ l, alnR (g x)) → alnR (l.foldl (fun b x => max b (g x)) a)
  | [], a, h, _ => h
  | y :: l, a, h, h2 => foldl_aln g l _ (h.max (h2 y List.mem_cons_self)) fun x hx => h2 x (List.mem_cons_of_mem _ hx)
theorem slots_at {r : ARename} {t : Int} (ht : inN t (usedS f r).length) : atD ((usedS f r).map (slotOf f r.To)) t = slotOf f r.To (atD (usedS f r) t) := by
  obtain ⟨t1, t2⟩ := ht
  have h3 : t.toNat < ((usedS f r).map (slotOf f r.To)).length := by rw [List.length_map]; omega
  have h4 := atD_nat h3
  rw [Int.toNat_of_nonneg t1] at h4
  have h5 := atD_nat (l := usedS f r) (i := t.toNat) (by omega)
  rw [Int.toNat_of_nonneg t1] at h5
  rw [h4, List.getElem_map, h5]
theorem appF_wf (hf : WfF n i par f) {r : ARename} (hv : ValidP f r.To) (hk : KeepP f r.Keep) {nums : List Int} (hN : NumP r.To (usedS f r) nums) : WfF n i par (appF f r nums) := by
  have hc := hf.code
  have hsl := hf.slots
  have hto := hv.1
  have hU := usedS_U hf hv hk
  have hul := asc_short hU.set hU.lt
  obtain ⟨k1, k2, k3⟩ := keep_facts hf hk
  have hb := cntK_bd r.Keep (f.Code.length - 1)
  have hb2 := cntK_bd r.Keep f.Code.length
  have hcl := codeOf_length (f := f) r.Keep nums (plL r.Keep) f.Code.length
  refine ⟨hf.parq, ?_, fun s hs => ?_, ⟨?_, ?_⟩, fun x hx => ?_, ?_⟩
  · show ((usedS f r).map _).length ≤ 6
    rw [List.length_map]; omega
  · obtain ⟨y, hy, rfl⟩ := List.mem_map.1 hs
    have hr0 := hf.rightS _ (atD_mem (hU.lt y hy))
    refine ⟨hr0.1, foldl_aln _ _ _ hr0.aln fun x hx => ?_⟩
    have := (mem_membS.1 hx).1
    rw [hto] at this
    exact (hf.rightS _ (atD_mem this)).aln
  · show 1 ≤ (codeOf f r.Keep nums (plL r.Keep) f.Code.length).length
    omega
  · show (codeOf f r.Keep nums (plL r.Keep) f.Code.length).length ≤ 800
    omega
  · obtain ⟨k, hk1, hk2, rfl⟩ := mem_codeOf hx
    have hsz : ∀ t, inN t (usedS f r).length → (atD ((usedS f r).map (slotOf f r.To)) t).Size = (atD f.Slots (atD (usedS f r) t)).Size := fun t ht => by rw [slots_at ht]; rfl
    have := ren_wf (m := cntK r.Keep f.Code.length) hf hv hU hN (sl := (usedS f r).map (slotOf f r.To)) (List.length_map ..) hsz k3 hk1 hk2
    show WfI n i par _ (fun t => inN t ((codeOf f r.Keep nums (plL r.Keep) f.Code.length).length : Int)) _
    rw [hcl]
    exact this
  · show (atD (codeOf f r.Keep nums (plL r.Keep) f.Code.length) (((codeOf f r.Keep nums (plL r.Keep) f.Code.length).length : Int) - 1)).Op = 23 ∨ (atD (codeOf f r.Keep nums (plL r.Keep) f.Code.length) (((codeOf f r.Keep nums (plL r.Keep) f.Code.length).length : Int) - 1)).Op = 24
    rw [hcl]
    obtain ⟨⟨q1, q2⟩, q3, q4, q5⟩ := kept_at (f := f) (keep := r.Keep) (nums := nums) (pl := plL r.Keep) (m := f.Code.length) (t := cntK r.Keep f.Code.length - 1) ⟨by omega, by omega⟩
    have hkl : atD (keptL r.Keep f.Code.length) (cntK r.Keep f.Code.length - 1) = (f.Code.length : Int) - 1 := by
      generalize atD (keptL r.Keep f.Code.length) (cntK r.Keep f.Code.length - 1) = x at *
      have hn : ¬ x < (f.Code.length : Int) - 1 := fun hx => by
        have h1 := cntK_mono r.Keep (a := x.toNat + 1) (b := f.Code.length - 1) (by omega)
        rw [cntK_succ, Int.toNat_of_nonneg q1, if_pos q3] at h1
        omega
      omega
    rw [q5, retI_op, renI_op, hkl]
    exact hf.last
end
end Go.Proofs.YtlhaoijkffhafaaGreatDoor.Q
