/- Which slices are renamings: the law. -/
import Derived.Test.YtbppgdffochdmaaP32
set_option linter.unusedVariables false
set_option linter.unusedSimpArgs false
namespace Go.Proofs.Ytbppgdffochdmaa.Q
theorem awake19_sp : WP law19_awake (· = true) := by
  unfold law19_awake
  refine WP.call (cmembers_sp _ _ (by simp)) ?_
  rintro _ rfl
  exact WP.ret (by decide)
theorem scene19_sp (cs : List Int) (h : isU8 cs) : WP (law19_scene cs) fun r => WfP r.1 ∧ inN r.2.1 r.1.Funcs.length ∧ okC r.2.2.2 ∧ ∃ out, Live (atD r.1.Funcs r.2.1) out ∧ GraphS (atD r.1.Funcs r.2.1).Slots.length r.2.2.1 (Edge (atD r.1.Funcs r.2.1) false out) := by
  unfold law19_scene
  refine WP.call (new_sp cs 250 h (by omega)) fun x1 h1 => ?_
  refine WP.call (program_sp x1 3 16 h1 (by omega) (by omega)) fun x2 ⟨h2, h3, h4⟩ => ?_
  have h5 := h3.len
  refine WP.call (next_sp _ _ h2 (by omega)) fun x3 ⟨h6, h7, h8, _⟩ => ?_
  have h9 := h8 (by omega)
  have hf := h3.func _ h7 h9
  refine WP.chk ⟨h7, h9⟩ fun _ => ?_
  refine WP.chk ⟨h7, h9⟩ fun _ => ?_
  refine WP.call (lives_sp _ h6 hf) fun x4 ⟨b1, b2⟩ => ?_
  refine WP.call (Graph18_sp hf b2) fun x5 ⟨b3, b4⟩ => ?_
  exact WP.ret ⟨h3, ⟨h7, h9⟩, b1, _, b2, b4⟩
theorem pl_CoalesceValid (cs raw : List Int) (s : Int) (h : isU8 cs) (_ : ∀ z ∈ raw, -9223372036854775808 ≤ z ∧ z ≤ 9223372036854775807) (_ : -9223372036854775808 ≤ s ∧ s ≤ 9223372036854775807) : WP (law19_CoalesceValid cs raw s) (· = true) := by
  unfold law19_CoalesceValid
  refine WP.call awake19_sp ?_
  rintro _ rfl
  refine WP.bif (fun wh => by cases wh) fun _ => ?_
  refine WP.bif (fun wh => WP.ret wh) fun wh => ?_
  rw [decide_eq_false_iff_not] at wh
  refine WP.call (scene19_sp cs h) fun x2 ⟨hp, hi, hc, _⟩ => ?_
  have hf := hp.func _ hi.1 hi.2
  refine WP.chk hi fun _ => ?_
  refine WP.call (rename_sp hp hi _ hc) fun x3 ⟨c1, c2, _⟩ => ?_
  refine WP.call (rename_sp hp hi _ c1) fun x4 ⟨d1, d2, _⟩ => ?_
  have hsl := hf.slots
  generalize atD x2.1.Funcs x2.2.1 = f at *
  generalize hL : ([raw, x3.1.To, x4.1.To, ([] : List Int)] : List (List Int)) = L
  have hlen : L.length = 4 := by rw [← hL]; rfl
  have hb : ∀ t ∈ L, t.length ≤ 1000000 := by
    rw [← hL]
    intro t ht
    simp only [List.mem_cons, List.not_mem_nil, or_false] at ht
    rcases ht with rfl | rfl | rfl | rfl
    · omega
    · omega
    · omega
    · simp
  clear hL
  refine WP.loop (fun j => 0 ≤ j ∧ j ≤ 4) (fun j => 4 - j.toNat) ⟨by omega, by omega⟩ ?_
  rintro again k ⟨a1, a2⟩ ih
  refine WP.bif (fun wh => ?_) (fun _ => WP.ret rfl) <;> (try simp only [decide_eq_true_eq, decide_eq_false_iff_not, Bool.not_eq_true', Bool.not_eq_false', Bool.and_eq_true, Bool.or_eq_true, Bool.not_eq_true, Bool.not_eq_false, Int.not_lt, Int.not_le, ne_eq] at wh)
  refine WP.chk ⟨by omega, by omega⟩ fun _ => ?_
  have hbk := hb _ (atD_mem (l := L) (i := k) ⟨by omega, by omega⟩)
  generalize atD L k = to at *
  refine WP.call (cvalid_sp f to (by omega)) fun b hb1 => ?_
  refine WP.call (rvalid_sp f to (by omega)) fun b' hb2 => ?_
  have e : b = b' := by rw [Bool.eq_iff_iff, hb1, hb2]
  subst e
  refine WP.bif (fun wh => by simp at wh) fun _ => ?_
  refine WP.call (csaved_sp hf to) fun y ⟨y1, y2⟩ => ?_
  refine WP.call (rsaved_sp hf to) fun y' ⟨z1, z2⟩ => ?_
  have e : y = y' := by
    by_cases hv : ValidP f to
    · rw [y1 hv, z1 hv]
    · rw [y2 hv, z2 hv]
  subst e
  refine WP.bif (fun wh => by simp at wh) fun _ => ?_
  refine WP.call (cmembers_sp to s hbk) ?_
  rintro _ rfl
  refine WP.call (members_sp to s hbk) ?_
  rintro _ rfl
  refine WP.call (same_sp _ _ (by have := membS_length to s; omega)) ?_
  rintro _ rfl
  refine WP.bif (fun wh => by simp at wh) fun _ => ?_
  refine WP.chk ⟨by omega, by omega⟩ fun _ => ?_
  exact ih _ ⟨by omega, by omega⟩ (by omega)
end Go.Proofs.Ytbppgdffochdmaa.Q
