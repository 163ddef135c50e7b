/- Applying a renaming: the function that comes out. -/
import Derived.Test.YtjnfnochdefpjaaGreatP21
set_option linter.unusedVariables false
set_option linter.unusedSimpArgs false
namespace Go.Proofs.YtjnfnochdefpjaaGreat.Q
def alnR (a : Int) : Prop := a = 1 ∨ a = 2 ∨ a = 4 ∨ a = 8 ∨ a = 16 ∨ a = 32 ∨ a = 64
theorem rightS.aln {s : ASlot} (h : rightS s) : alnR s.Align := h.2
theorem alnR.max {a b : Int} (h : alnR a) (h' : alnR b) : alnR (Max.max a b) := by unfold alnR at *; omega
/-- The jumps of a renamed instruction go elsewhere. -/
def retI (x : AInstr) (pl : List Int) : AInstr := if x.Op = 20 then ⟨x.Op, atD pl x.A, x.B, x.C, x.Imm⟩ else if x.Op = 21 then ⟨x.Op, x.A, atD pl x.B, x.C, x.Imm⟩ else x
section
variable {n i par : Int} {f : AFunc}
theorem ren_wf (hf : WfF n i par f) {r : ARename} (hv : ValidP f r.To) {u nums pl : List Int} {m : Int} (hU : UsedP f r f.Code.length u) (hN : NumP r.To u nums) {sl : List ASlot} (hsl : sl.length = u.length) (hsz : ∀ t, inN t u.length → (atD sl t).Size = (atD f.Slots (atD u t)).Size) (hpl : ∀ t, inN t f.Code.length → inN (atD pl t) m) {k : Int} (hk : inN k f.Code.length) (hkeep : atD r.Keep k = true) :
    WfI n i par sl (fun t => inN t m) (retI (renI (atD f.Code k) nums) pl) := by
  have hI := hf.at_ hk
  have hto := hv.1
  have huse := hU.use k hk.1 hk.2 hkeep
  have hdfn := hU.dfn k hk.1 hk.2 hkeep
  have hnum : ∀ s, inN s f.Slots.length → atD r.To s ∈ u → inN (renN s nums) sl.length ∧ (atD sl (renN s nums)).Size = (atD f.Slots s).Size := fun s hs hm => by
    have hs' : inN s r.To.length := by rw [hto]; exact hs
    obtain ⟨q1, q2⟩ := hN.2 s hs' hm
    rw [renN_in (by rw [hN.1]; exact hs'), hsl]
    refine ⟨q1, ?_⟩
    rw [hsz _ q1, q2]
    exact (hv.2 s hs').2.1
  have hrn : ∀ s, inN s f.Slots.length → renN s r.To = atD r.To s := fun s hs => renN_in (by rw [hto]; exact hs)
  generalize atD f.Code k = x at *
  cases hI with
  | const a w h1 h2 => exact .const a w h1 h2
  | copy o a b h1 h2 h3 =>
    have : retI (renI ⟨o, a, b, 0, 0⟩ nums) pl = ⟨o, a, b, 0, 0⟩ := by
      rcases h1 with rfl | rfl <;> rfl
    rw [this]; exact .copy o a b h1 h2 h3
  | arith o a b c h1 h2 h3 h4 h5 =>
    have : retI (renI ⟨o, a, b, c, 0⟩ nums) pl = ⟨o, a, b, c, 0⟩ := by
      unfold renI retI
      dsimp only
      rw [if_neg (show ¬ o = 15 by omega), if_neg (show ¬ o = 16 by omega), if_neg (show ¬ o = 17 by omega), if_neg (show ¬ o = 20 by omega), if_neg (show ¬ o = 21 by omega)]
    rw [this]; exact .arith o a b c h1 h2 h3 h4 h5
  | io o a h1 h2 =>
    have : retI (renI ⟨o, a, 0, 0, 0⟩ nums) pl = ⟨o, a, 0, 0, 0⟩ := by
      rcases h1 with rfl | rfl <;> rfl
    rw [this]; exact .io o a h1 h2
  | load a s h1 h2 =>
    have h3 := huse (renN s r.To) (by rw [renI_use]; simp)
    rw [hrn s h2] at h3
    exact .load a (renN s nums) h1 (hnum s h2 h3).1
  | store s a h1 h2 =>
    have h3 := hdfn rfl
    rw [renI_A _ _ rfl, show (⟨16, s, a, 0, 0⟩ : AInstr).A = s from rfl, hrn s h1] at h3
    exact .store (renN s nums) a (hnum s h1 h3).1 h2
  | move s t h1 h2 h3 =>
    have h4 := hdfn rfl
    rw [renI_A _ _ rfl, show (⟨17, s, t, 0, 0⟩ : AInstr).A = s from rfl, hrn s h1] at h4
    have h5 := huse (renN t r.To) (by rw [renI_use]; simp)
    rw [hrn t h2] at h5
    obtain ⟨p1, p2⟩ := hnum s h1 h4
    obtain ⟨p3, p4⟩ := hnum t h2 h5
    exact .move (renN s nums) (renN t nums) p1 p3 (by rw [p2, p4]; exact h3)
  | arg a r h1 h2 => exact .arg a r h1 h2
  | param a k h1 h2 => exact .param a k h1 h2
  | jump t h1 => exact .jump (atD pl t) (hpl t h1)
  | branch a t h1 h2 => exact .branch a (atD pl t) h1 (hpl t h2)
  | call g h1 h2 => exact .call g h1 h2
  | ret => exact .ret
  | trap w h1 => exact .trap w h1
theorem asc_short {m : Nat} {u : List Int} (h : IsS u) (hm : ∀ y ∈ u, inN y m) : u.length ≤ m := asc_length (lo := 0) (n := m) h.asc fun x hx => by have := hm x hx; obtain ⟨a, b⟩ := this; omega
theorem apply21_sp (hf : WfF n i par f) (r : ARename) : WP (r21_Apply f r) fun x => (x.2 = 0 ∧ ValidP f r.To ∧ KeepP f r.Keep ∧ WfF n i par x.1) ∨ (x.2 ≠ 0 ∧ x.1 = ⟨0, [], []⟩ ∧ ¬ (ValidP f r.To ∧ KeepP f r.Keep)) := by
  have hc := hf.code
  have hsl := hf.slots
  unfold r21_Apply
  refine WP.call (check21_sp hf r) fun e he => ?_
  refine WP.bif (fun wh => ?_) (fun wh => ?_)
  · rw [Bool.not_eq_true', decide_eq_false_iff_not] at wh
    exact WP.ret (.inr ⟨wh, rfl, fun q => wh (he.2 q)⟩)
  rw [Bool.not_eq_false', decide_eq_true_eq] at wh
  obtain ⟨hv, hk⟩ := he.1 wh
  have hto := hv.1
  have hkl := hk.1
  refine WP.call (used21_sp hf hv hk) fun u hU => ?_
  have hul := asc_short hU.set hU.lt
  refine WP.loop (fun j => (0 ≤ j.1 ∧ j.1 ≤ u.length) ∧ (j.2.length : Int) = j.1 ∧ (∀ x ∈ j.2, rightS x) ∧ ∀ t, 0 ≤ t → t < j.1 → (atD j.2 t).Size = (atD f.Slots (atD u t)).Size) (fun j => u.length - j.1.toNat) ⟨⟨by simp, by simp⟩, by simp, by simp, fun t h1 h2 => by exfalso; dsimp only at h2; omega⟩ ?_
  rintro again1 ⟨t, sl⟩ ⟨⟨a1, a2⟩, a3, a4, a5⟩ ih1
  dsimp only at a1 a2 a3 a4 a5 ih1 ⊢
  refine WP.bif (fun wh => ?_) (fun wh => ?_) <;> (try simp only [wpH, ne_eq] at wh)
  · have htl := wh
    have hut := hU.lt _ (atD_mem ⟨a1, wh⟩)
    refine WP.chk ⟨a1, wh⟩ fun _ => ?_
    refine WP.chk hut fun _ => ?_
    refine WP.chk ⟨a1, htl⟩ fun _ => ?_
    refine WP.call (members_sp _ _ (by omega)) ?_
    rintro _ rfl
    have hml := membS_length r.To (atD u t)
    have hr0 := hf.rightS _ (atD_mem hut)
    refine WP.loop (fun j => (0 ≤ j.1 ∧ j.1 ≤ (membS r.To (atD u t)).length) ∧ j.2.Size = (atD f.Slots (atD u t)).Size ∧ alnR j.2.Align) (fun j => (membS r.To (atD u t)).length - j.1.toNat) ⟨⟨by simp, by simp⟩, rfl, hr0.aln⟩ ?_
    rintro again2 ⟨q, x⟩ ⟨⟨b1, b2⟩, b3, b4⟩ ih2
    dsimp only at b1 b2 b3 b4 ih2 ⊢
    refine WP.bif (fun wh => ?_) (fun wh => ?_) <;> (try simp only [wpH, ne_eq] at wh)
    · have hql := wh
      have hmm := (mem_membS.1 (atD_mem ⟨b1, wh⟩)).1
      rw [hto] at hmm
      refine WP.chk ⟨b1, wh⟩ fun _ => ?_
      refine WP.chk hmm fun _ => ?_
      refine WP.chk ⟨by omega, by omega⟩ fun _ => ?_
      exact ih2 _ ⟨⟨by dsimp only; omega, by dsimp only; omega⟩, b3, b4.max (hf.rightS _ (atD_mem hmm)).aln⟩ (by dsimp only; omega)
    · refine WP.chk (by omega) fun _ => ?_
      refine WP.chk (by simp only [List.length_singleton]; omega) fun _ => ?_
      refine WP.chk ⟨by omega, by omega⟩ fun _ => ?_
      refine ih1 _ ⟨⟨by dsimp only; omega, by dsimp only; omega⟩, by simp only [List.length_append, List.length_singleton]; omega, fun y hy => ?_, fun y h1 h2 => ?_⟩ (by dsimp only; omega)
      · rcases List.mem_append.1 hy with h | h
        · exact a4 y h
        · rw [one_mem h]
          refine ⟨?_, b4⟩
          rw [b3]
          exact hr0.1
      · dsimp only at h2 ⊢
        by_cases hy : y = t
        · subst hy; rw [atD_last (by omega)]; exact b3
        · rw [atD_append_left (by omega)]; exact a5 y h1 (by omega)
  · have hsu : sl.length = u.length := by omega
    refine WP.call (numbers21_sp r u (by omega) (by omega)) fun nums hN => ?_
    refine WP.call (places21_sp r (by omega)) fun pl ⟨hp1, hp2⟩ => ?_
    have hlastk : atD r.Keep ((f.Code.length : Int) - 1) = true := by
      cases h : atD r.Keep ((f.Code.length : Int) - 1) with
      | true => rfl
      | false =>
        have h1 := hk.2 _ ⟨by omega, by omega⟩ h
        unfold remB at h1
        rcases hf.last with q | q <;> rw [q] at h1 <;> simp at h1
    have htot : cntK r.Keep f.Code.length = cntK r.Keep (f.Code.length - 1) + 1 := by
      have e : f.Code.length = (f.Code.length - 1) + 1 := by omega
      have e2 : cntK r.Keep ((f.Code.length - 1) + 1) = cntK r.Keep (f.Code.length - 1) + (if atD r.Keep ((f.Code.length - 1 : Nat) : Int) = true then 1 else 0) := rfl
      rw [← e] at e2
      rw [e2, show ((f.Code.length - 1 : Nat) : Int) = (f.Code.length : Int) - 1 by omega, if_pos hlastk]
    have hplr : ∀ t, inN t f.Code.length → inN (atD pl t) (cntK r.Keep f.Code.length) := fun t ht => by
      obtain ⟨t1, t2⟩ := ht
      rw [hp2 t ⟨t1, by omega⟩]
      have h1 := cntK_bd r.Keep t.toNat
      have h2 := cntK_mono r.Keep (a := t.toNat) (b := f.Code.length - 1) (by omega)
      exact ⟨h1.1, by omega⟩
    have hbd := cntK_bd r.Keep f.Code.length
    refine WP.loop (fun j => (0 ≤ j.1 ∧ j.1 ≤ f.Code.length) ∧ (j.2.length : Int) = cntK r.Keep j.1.toNat ∧ (∀ x ∈ j.2, WfI n i par sl (fun t => inN t (cntK r.Keep f.Code.length)) x) ∧ (j.1 = f.Code.length → (atD j.2 ((j.2.length : Int) - 1)).Op = 23 ∨ (atD j.2 ((j.2.length : Int) - 1)).Op = 24)) (fun j => f.Code.length - j.1.toNat) ⟨⟨by simp, by simp⟩, rfl, by simp, fun h => by exfalso; dsimp only at h; omega⟩ ?_
    rintro again3 ⟨k, code⟩ ⟨⟨b1, b2⟩, b3, b4, b5⟩ ih3
    dsimp only at b1 b2 b3 b4 b5 ih3 ⊢
    have hbk := cntK_bd r.Keep k.toNat
    refine WP.bif (fun wh => ?_) (fun wh => ?_) <;> (try simp only [wpH, ne_eq] at wh)
    · have hkl2 := wh
      have hkn : ((k.toNat : Nat) : Int) = k := Int.toNat_of_nonneg b1
      have hnx : cntK r.Keep (k + 1).toNat = cntK r.Keep k.toNat + (if atD r.Keep k = true then 1 else 0) := by
        rw [show (k + 1).toNat = k.toNat + 1 by omega]
        show cntK r.Keep k.toNat + (if atD r.Keep (k.toNat : Int) = true then 1 else 0) = _
        rw [hkn]
      refine WP.chk ⟨b1, by omega⟩ fun _ => ?_
      refine WP.bif (fun wh => ?_) (fun wh => ?_)
      · rw [Bool.not_eq_true'] at wh
        refine WP.chk ⟨by omega, by omega⟩ fun _ => ?_
        refine ih3 _ ⟨⟨by dsimp only; omega, by dsimp only; omega⟩, by dsimp only; rw [hnx, wh]; simpa using b3, b4, fun h => ?_⟩ (by dsimp only; omega)
        exfalso
        dsimp only at h
        rw [show k = (f.Code.length : Int) - 1 by omega, hlastk] at wh
        cases wh
      · rw [Bool.not_eq_false'] at wh
        have hkeep := wh
        refine WP.chk ⟨b1, hkl2⟩ fun _ => ?_
        refine WP.call (Renamed15_sp _ _) ?_
        rintro _ rfl
        have hW := ren_wf hf hv hU hN hsu (fun t ht => a5 t ht.1 (by have := ht.2; omega)) hplr ⟨b1, hkl2⟩ hkeep
        have hI := hf.at_ ⟨b1, hkl2⟩
        have hop : (retI (renI (atD f.Code k) nums) pl).Op = (atD f.Code k).Op := by
          rw [← renI_op (atD f.Code k) nums]
          unfold retI
          split
          · rfl
          · split <;> rfl
        have hj20 : (renI (atD f.Code k) nums).Op = 20 → inN (renI (atD f.Code k) nums).A f.Code.length := fun h => by
          have h' := h
          rw [renI_op] at h
          have e : renI (atD f.Code k) nums = atD f.Code k := by unfold renI; rw [if_neg (by omega), if_neg (by omega), if_neg (by omega)]
          rw [e]
          generalize atD f.Code k = x at *
          cases hI <;> first | assumption | (simp at h; done) | (exfalso; dsimp only at h; omega)
        have hj21 : (renI (atD f.Code k) nums).Op = 21 → inN (renI (atD f.Code k) nums).B f.Code.length := fun h => by
          rw [renI_op] at h
          have e : renI (atD f.Code k) nums = atD f.Code k := by unfold renI; rw [if_neg (by omega), if_neg (by omega), if_neg (by omega)]
          rw [e]
          generalize atD f.Code k = x at *
          cases hI <;> first | assumption | (simp at h; done) | (exfalso; dsimp only at h; omega)
        refine WP.join (fun x => x = retI (renI (atD f.Code k) nums) pl) ?_ ?_
        · rintro _ rfl
          refine WP.chk (by omega) fun _ => ?_
          refine WP.chk (by simp only [List.length_singleton]; omega) fun _ => ?_
          refine WP.chk ⟨by omega, by omega⟩ fun _ => ?_
          refine ih3 _ ⟨⟨by dsimp only; omega, by dsimp only; omega⟩, by simp only [List.length_append, List.length_singleton]; rw [hnx, if_pos hkeep]; omega, fun x hx => ?_, fun h => ?_⟩ (by dsimp only; omega)
          · rcases List.mem_append.1 hx with h | h
            · exact b4 x h
            · rw [one_mem h]; exact hW
          · dsimp only at h ⊢
            rw [atD_last (by simp only [List.length_append, List.length_singleton]; omega), hop, show k = (f.Code.length : Int) - 1 by omega]
            exact hf.last
        · intro k3 hk3
          refine WP.bif (fun wh => ?_) (fun wh => ?_) <;> (try simp only [wpH, ne_eq] at wh)
          · have h20 := wh
            obtain ⟨j1, j2⟩ := hj20 wh
            refine WP.chk ⟨j1, by omega⟩ fun _ => ?_
            exact hk3 _ (by unfold retI; rw [if_pos h20])
          have h20 := wh
          refine WP.bif (fun wh => ?_) (fun wh => ?_) <;> (try simp only [wpH, ne_eq] at wh)
          · have h21 := wh
            obtain ⟨j1, j2⟩ := hj21 wh
            refine WP.chk ⟨j1, by omega⟩ fun _ => ?_
            exact hk3 _ (by unfold retI; rw [if_neg h20, if_pos h21])
          · exact hk3 _ (by unfold retI; rw [if_neg h20, if_neg wh])
    · have hke : k = f.Code.length := by omega
      subst hke
      have hlen : (code.length : Int) = cntK r.Keep f.Code.length := by simpa using b3
      have hb0 := cntK_bd r.Keep (f.Code.length - 1)
      refine WP.ret (.inl ⟨rfl, hv, hk, ⟨hf.parq, by dsimp only; omega, a4, ⟨by dsimp only; omega, by dsimp only; omega⟩, fun x hx => ?_, b5 rfl⟩⟩)
      have := b4 x hx
      dsimp only
      rw [hlen]
      exact this
end
end Go.Proofs.YtjnfnochdefpjaaGreat.Q
