/- Rewriting: the law of applying. -/
import Derived.Test.YtlhaoijkffhafaaDoorP21e
set_option linter.unusedVariables false
set_option linter.unusedSimpArgs false
namespace Go.Proofs.YtlhaoijkffhafaaDoor.Q
section
variable {n i par : Int} {f : AFunc}
theorem appF_lenA (hf : WfF n i par f) (r : ARename) (nums : List Int) : (appF f r nums).Code.length ≤ 800 ∧ (appF f r nums).Slots.length ≤ 512 := by
  have hc := hf.code
  have hcl := codeOf_length (f := f) r.Keep nums (plL r.Keep) f.Code.length
  have hb := cntK_bd r.Keep f.Code.length
  have hu := (IsS.usedS f r).length
  constructor
  · show (codeOf f r.Keep nums (plL r.Keep) f.Code.length).length ≤ 800
    omega
  · show ((usedS f r).map _).length ≤ 512
    rw [List.length_map]; exact hu
end
theorem pl_RewriteApply (cs : List Int) (raw : ARename) (h : isU8 cs) (_ : ∀ z ∈ raw.To, -9223372036854775808 ≤ z ∧ z ≤ 9223372036854775807) : WP (law21_RewriteApply cs raw) (· = true) := by
  unfold law21_RewriteApply
  refine WP.call awake21_sp ?_
  rintro _ rfl
  refine WP.bif (fun wh => by cases wh) fun _ => ?_
  refine WP.bif (fun _ => WP.ret rfl) fun wh => ?_
  rw [decide_eq_false_iff_not] at wh
  have hr1 := wh
  refine WP.bif (fun wh => WP.ret wh) fun wh => ?_
  rw [decide_eq_false_iff_not] at wh
  refine WP.call (scene21_sp cs h) fun x3 ⟨hp, hi, hl1, hl2⟩ => ?_
  have hf := hp.func _ hi.1 hi.2
  refine WP.chk hi fun _ => ?_
  generalize atD x3.1.Funcs x3.2.1 = f at *
  have hc := hf.code
  have hsl := hf.slots
  refine WP.call (plain21_sp f (by omega) (by omega)) ?_
  rintro _ rfl
  generalize hL : ([x3.2.2.1, raw, plainR f] : List ARename) = L
  have hlen : L.length = 3 := by rw [← hL]; rfl
  have hb : ∀ t ∈ L, t.Keep.length ≤ 1000000 := by
    rw [← hL]
    intro t ht
    simp only [List.mem_cons, List.not_mem_nil, or_false] at ht
    rcases ht with rfl | rfl | rfl
    · omega
    · omega
    · simp [plainR, trueL]; omega
  clear hL
  refine WP.loop (fun j => 0 ≤ j ∧ j ≤ 3) (fun j => 3 - j.toNat) ⟨by omega, by omega⟩ ?_
  rintro again k ⟨a1, a2⟩ ih
  refine WP.bif (fun wh => ?_) (fun _ => WP.ret rfl) <;> (try simp only [decide_eq_true_eq, decide_eq_false_iff_not, Bool.not_eq_true', Bool.not_eq_false', Bool.and_eq_true, Bool.or_eq_true, Bool.not_eq_true, Bool.not_eq_false, Int.not_lt, Int.not_le, ne_eq] at wh)
  refine WP.chk ⟨by omega, by omega⟩ fun _ => ?_
  have hbk := hb _ (atD_mem (l := L) (i := k) ⟨by omega, by omega⟩)
  generalize atD L k = r at *
  refine WP.call (rwapply_sp hf r) fun x6 ⟨g1, g2⟩ => ?_
  refine WP.call (rapplyX_sp hf r) fun x7 ⟨g3, g4⟩ => ?_
  have e : x6 = x7 ∧ x6.1.Code.length ≤ 1000000 ∧ x6.1.Slots.length ≤ 1000000 := by
    by_cases hvk : ValidP f r.To ∧ KeepP f r.Keep
    · obtain ⟨p1, p2⟩ := g1 hvk
      obtain ⟨p3, p4⟩ := g3 hvk
      refine ⟨Prod.ext (p2.uniq hf hvk.1 hvk.2 p4) (by rw [p1, p3]), ?_⟩
      obtain ⟨nums, _, e⟩ := p2
      have := appF_lenA hf r nums
      rw [e]
      omega
    · rw [g2 hvk, g4 hvk]; simp
  obtain ⟨rfl, e1, e2⟩ := e
  refine WP.bif (fun wh => by simp at wh) fun _ => ?_
  refine WP.call (sameFunc_sp _ e1 e2) ?_
  rintro _ rfl
  refine WP.bif (fun wh => by cases wh) fun _ => ?_
  refine WP.call (rwcheck_sp hf r) fun x9 ⟨c1, c2⟩ => ?_
  refine WP.call (check21X_sp hf r) fun x10 ⟨c3, c4⟩ => ?_
  have e : x9 = x10 := by
    by_cases hvk : ValidP f r.To ∧ KeepP f r.Keep
    · rw [c1 hvk, c3 hvk]
    · rw [c2 hvk, c4 hvk]
  subst e
  refine WP.bif (fun wh => by simp at wh) fun _ => ?_
  refine WP.call (rwplaces_sp r hbk) ?_
  intro x hx
  rw [hx]
  clear hx x
  refine WP.call (rplaces_sp r hbk) ?_
  intro x hx
  rw [hx]
  clear hx x
  refine WP.call (same_sp _ _ (by rw [plL_len]; omega)) ?_
  intro x hx
  rw [hx]
  clear hx x
  refine WP.bif (fun wh => by simp at wh) fun _ => ?_
  refine WP.call (rwused_sp f r (by omega)) ?_
  intro x hx
  rw [hx]
  clear hx x
  refine WP.call (rusedX_sp f r (by omega)) ?_
  intro x hx
  rw [hx]
  clear hx x
  refine WP.call (same_sp _ _ (by have := (IsS.usedS f r).length; omega)) ?_
  intro x hx
  rw [hx]
  clear hx x
  refine WP.bif (fun wh => by simp at wh) fun _ => ?_
  refine WP.chk ⟨by omega, by omega⟩ fun _ => ?_
  exact ih _ ⟨by omega, by omega⟩ (by omega)
end Go.Proofs.YtlhaoijkffhafaaDoor.Q
