/- The area of arguments: the law. -/
import Derived.Test.YtjfkdjlmajfljaaP2
set_option linter.unusedVariables false
set_option linter.unusedSimpArgs false
namespace Go.Proofs.Ytjfkdjlmajfljaa.Q
theorem WP.iter {α γ : Type} {F : (γ → M α) → γ → M α} {j : γ} {Q : α → Prop} (n : Nat) (h : WP (M.iter F n j) Q) : WP (M.loop F j) Q := by
  obtain ⟨r, h1, h2⟩ := h
  exact ⟨r, M.loop_iff.2 ⟨n, h1⟩, h2⟩
def isU8 (cs : List Int) : Prop := ∀ x ∈ cs, 0 ≤ x ∧ x ≤ 255
theorem awake24_sp : WP law24_awake (· = true) := by
  unfold law24_awake
  refine WP.call (R := (· = 16)) ?_ ?_
  · unfold pack_Args
    refine WP.chk (by simp) fun _ => ?_
    refine WP.iter 3 ?_
    simp [M.iter, WP.bif_iff, WP.chk_iff, WP.ret_iff, atD, okI]
    omega
  · rintro _ rfl
    exact WP.ret rfl
theorem scene24_sp (cs : List Int) (h : isU8 cs) : WP (law24_scene cs) fun r => WfP r.1 ∧ r.1.Funcs.length ≤ 3 ∧ inN r.2.1 r.1.Funcs.length ∧ (r.2.2.1 = alignP r.1 ∨ r.2.2.1 = alignP r.1 * 2 ∨ r.2.2.1 = alignP r.1 * 4) ∧ okC r.2.2.2 := by
  unfold law24_scene
  refine WP.call (new_sp cs 250 h (by omega)) fun x1 h1 => ?_
  refine WP.call (program_sp x1 3 12 h1 (by omega) (by omega)) fun x2 ⟨h2, h3, h4⟩ => ?_
  have h5 := h3.len
  refine WP.call (next_sp _ _ h2 (by omega)) fun x3 ⟨h6, h7, h8, _⟩ => ?_
  have h9 := h8 (by omega)
  refine WP.call (align5_sp _ h3) ?_
  rintro _ rfl
  refine WP.call (next_sp _ 3 h6 (by omega)) fun x5 ⟨a1, a2, a3, _⟩ => ?_
  have ha := (alignP_R h3).1
  have e : x5.1 = 0 ∨ x5.1 = 1 ∨ x5.1 = 2 := by omega
  have e2 : alignP x2.1 * 2 ^ x5.1.toNat = alignP x2.1 ∨ alignP x2.1 * 2 ^ x5.1.toNat = alignP x2.1 * 2 ∨ alignP x2.1 * 2 ^ x5.1.toNat = alignP x2.1 * 4 := by
    rcases e with e | e | e <;> rw [e] <;> simp
  refine WP.chk ⟨a2, by omega, ?_⟩ fun _ => WP.ret ⟨h3, by dsimp only; omega, ⟨h7, h9⟩, e2, a1⟩
  unfold okI
  unfold alR at ha
  omega
theorem pl_PackArgsFitAllCalls (cs : List Int) (h : isU8 cs) : WP (law24_PackArgsFitAllCalls cs) (· = true) := by
  unfold law24_PackArgsFitAllCalls
  refine WP.call awake24_sp ?_
  rintro _ rfl
  refine WP.bif (fun wh => by cases wh) fun _ => ?_
  refine WP.call (scene24_sp cs h) fun x2 ⟨h1, h2, h3, h4, h5⟩ => ?_
  refine WP.call (args24_sp _ _ h1 h3) ?_
  rintro _ rfl
  have hA := argsN_R h1 h3 (l := (atD x2.1.Funcs x2.2.1).Code) fun x hx => hx
  have hat := fun k hk => (h1.at_ (i := x2.2.1) (k := k) h3 hk).need h1 h3.1
  obtain ⟨hi1, hi2⟩ := h3
  have hc := (h1.func _ hi1 hi2).code
  generalize hf : atD x2.1.Funcs x2.2.1 = f at *
  obtain ⟨hA1, hA2, hA3, hA4⟩ := hA
  refine WP.loop (fun j => 0 ≤ j.2 ∧ j.2 ≤ f.Code.length ∧ (j.1 = true ↔ argsN x2.1 f.Code = 0 ∨ ∃ x ∈ f.Code.take j.2.toNat, needA x2.1 x = argsN x2.1 f.Code)) (fun j => f.Code.length - j.2.toNat) ⟨by simp, by simp, by simp; omega⟩ ?_
  rintro again ⟨t, k⟩ ⟨a1, a2, a3⟩ ih
  dsimp only at a1 a2 a3 ih ⊢
  (first | (refine WP.chk (by (first | omega | (simp only [okI, List.length_append, List.length_cons, List.length_nil, length_setD, length_repD] at *; omega))) fun _ => ?_) | ((refine WP.bif (fun wh => ?_) (fun wh => ?_)) <;> (try simp only [decide_eq_true_eq, decide_eq_false_iff_not, Bool.not_eq_true', Bool.not_eq_false', Bool.and_eq_true, Bool.or_eq_true, Bool.not_eq_true, Bool.not_eq_false, Int.not_lt, Int.not_le, ne_eq] at wh) <;> (try (exfalso; omega))))
  refine WP.bif (fun wh => ?_) (fun wh => ?_) <;> (try simp only [decide_eq_true_eq, decide_eq_false_iff_not, Bool.not_eq_true', Bool.not_eq_false', Bool.and_eq_true, Bool.or_eq_true, Bool.not_eq_true, Bool.not_eq_false, Int.not_lt, Int.not_le, ne_eq] at wh)
  · have hN := hat k ⟨a1, wh⟩
    have hm := hA3 _ (atD_mem ⟨a1, wh⟩)
    refine WP.join (fun n => n = 16 * needA x2.1 (atD f.Code k)) ?_ ?_
    · rintro _ rfl
      refine WP.bif (fun wh => ?_) (fun wh => ?_) <;> (try simp only [decide_eq_true_eq, decide_eq_false_iff_not, Bool.not_eq_true', Bool.not_eq_false', Bool.and_eq_true, Bool.or_eq_true, Bool.not_eq_true, Bool.not_eq_false, Int.not_lt, Int.not_le, ne_eq] at wh)
      · exfalso; omega
      have step : ∀ t', (t' = true ↔ argsN x2.1 f.Code = 0 ∨ ∃ x ∈ f.Code.take (k + 1).toNat, needA x2.1 x = argsN x2.1 f.Code) → WP (again (t', k + 1)) (· = true) := fun t' ht => ih _ ⟨by dsimp only; omega, by dsimp only; omega, ht⟩ (by dsimp only; omega)
      rw [take_atD ⟨a1, by assumption⟩] at step
      refine WP.bif (fun wh => ?_) (fun wh => ?_)
      · (repeat' (first | (refine WP.chk (by (first | omega | (simp only [okI, List.length_append, List.length_cons, List.length_nil, length_setD, length_repD] at *; omega))) fun _ => ?_) | ((refine WP.bif (fun wh => ?_) (fun wh => ?_)) <;> (try simp only [decide_eq_true_eq, decide_eq_false_iff_not, Bool.not_eq_true', Bool.not_eq_false', Bool.and_eq_true, Bool.or_eq_true, Bool.not_eq_true, Bool.not_eq_false, Int.not_lt, Int.not_le, ne_eq] at wh) <;> (try (exfalso; omega)))))
        refine step _ ⟨fun _ => ?_, fun _ => rfl⟩
        rcases a3.1 wh with q | ⟨x, hx, q⟩
        · exact .inl q
        · exact .inr ⟨x, List.mem_append_left _ hx, q⟩
      · (repeat' (first | (refine WP.chk (by (first | omega | (simp only [okI, List.length_append, List.length_cons, List.length_nil, length_setD, length_repD] at *; omega))) fun _ => ?_) | ((refine WP.bif (fun wh => ?_) (fun wh => ?_)) <;> (try simp only [decide_eq_true_eq, decide_eq_false_iff_not, Bool.not_eq_true', Bool.not_eq_false', Bool.and_eq_true, Bool.or_eq_true, Bool.not_eq_true, Bool.not_eq_false, Int.not_lt, Int.not_le, ne_eq] at wh) <;> (try (exfalso; omega)))))
        refine step _ ?_
        rw [decide_eq_true_eq]
        constructor
        · intro q; exact .inr ⟨_, List.mem_append_right _ (List.mem_singleton.2 rfl), by omega⟩
        · rintro (q | ⟨x, hx, q⟩)
          · rw [a3.2 (.inl q)] at wh; cases wh
          · rcases List.mem_append.1 hx with hx | hx
            · rw [a3.2 (.inr ⟨x, hx, q⟩)] at wh; cases wh
            · rw [one_mem hx] at q; omega
    · intro k2 hk2
      have hp22 : (atD f.Code k).Op = 22 → 0 ≤ (atD x2.1.Funcs (atD f.Code k).A).Params ∧ (atD x2.1.Funcs (atD f.Code k).A).Params ≤ 3 := fun q => h1.par _ (atD_mem ⟨by have := hN.2.2.2 q; omega, (hN.2.2.2 q).2⟩)
      generalize hx : atD f.Code k = x at *
      (repeat' (first | (refine WP.chk (by (first | omega | (simp only [okI, List.length_append, List.length_cons, List.length_nil, length_setD, length_repD] at *; omega))) fun _ => ?_) | ((refine WP.bif (fun wh => ?_) (fun wh => ?_)) <;> (try simp only [decide_eq_true_eq, decide_eq_false_iff_not, Bool.not_eq_true', Bool.not_eq_false', Bool.and_eq_true, Bool.or_eq_true, Bool.not_eq_true, Bool.not_eq_false, Int.not_lt, Int.not_le, ne_eq] at wh) <;> (try (exfalso; omega)))))
      · exact hk2 _ (by unfold needA; rw [if_pos (by assumption)])
      · exact hk2 _ (by unfold needA; rw [if_neg (by assumption), if_pos (by assumption)])
      · exact hk2 _ (by unfold needA; rw [if_neg (by assumption), if_neg (by assumption)]; rfl)
  · refine WP.ret (a3.2 ?_)
    rw [take_all (by omega)]
    exact hA4
end Go.Proofs.Ytjfkdjlmajfljaa.Q
