/- Stores that are never read again: the functions, the scene, the laws. -/
import Derived.Test.YtjnfnochdefpjaaGreatP18
set_option linter.unusedVariables false
set_option linter.unusedSimpArgs false
namespace Go.Proofs.YtjnfnochdefpjaaGreat.Q
theorem atD_ext {α : Type} [Inhabited α] {a b : List α} (hl : a.length = b.length) (h : ∀ k, inN k a.length → atD a k = atD b k) : a = b :=
  List.ext_getElem hl fun t h1 h2 => by rw [← atD_nat h1, ← atD_nat h2]; exact h _ ⟨by omega, by omega⟩
/-- Nothing reads what k writes. -/
def deadB (f : AFunc) (out : List (List Int)) (k : Int) : Bool := remB (atD f.Code k) && !decide ((atD f.Code k).A ∈ atD out k)
section
variable {n i par : Int} {f : AFunc}
theorem rdead20_sp (hf : WfF n i par f) {l : ALive} (h : AnnS f l.Out) {k : Int} (hk : inN k f.Code.length) : WP (r20_dead f l k) (· = deadB f l.Out k) := by
  have hl := h.len
  obtain ⟨k1, k2⟩ := hk
  unfold r20_dead deadB
  refine WP.chk ⟨k1, k2⟩ fun _ => ?_
  refine WP.call (defines_sp _) ?_
  rintro _ rfl
  cases hrem : remB (atD f.Code k) with
  | false =>
    refine WP.bif (fun q => by cases q) fun _ => ?_
    exact WP.ret rfl
  | true =>
    refine WP.bif (fun _ => ?_) (fun q => by cases q)
    refine WP.chk ⟨k1, by omega⟩ fun _ => ?_
    have := (h.set k ⟨k1, k2⟩).1.length
    refine WP.call (has_sp _ _ (by omega)) ?_
    rintro _ rfl
    exact WP.ret (by simp)
/-- Whether instruction k stays. -/
def keepB (f : AFunc) (out : List (List Int)) (to : List Int) (k : Int) : Bool := !deadB f out k && !(decide ((atD f.Code k).Op = 17) && decide (atD to (atD f.Code k).A = atD to (atD f.Code k).B))
def keepL (f : AFunc) (out : List (List Int)) (to : List Int) (m : Nat) : List Bool := (List.range m).map fun k : Nat => keepB f out to (k : Int)
theorem keepL_at {f : AFunc} {out : List (List Int)} {to : List Int} {m : Nat} {k : Int} (hk : inN k m) : atD (keepL f out to m) k = keepB f out to k := by
  obtain ⟨h1, h2⟩ := hk
  unfold keepL atD
  rw [List.getD_eq_getElem?_getD, List.getElem?_map, List.getElem?_range (by omega)]
  simp [Int.toNat_of_nonneg h1]
theorem rkeep20_sp (hf : WfF n i par f) {l : ALive} (h : AnnS f l.Out) {to : List Int} (ht : to.length = f.Slots.length) : WP (r20_Keep f l to) (· = keepL f l.Out to f.Code.length) := by
  have hc := hf.code
  unfold r20_Keep
  refine WP.loop (fun j => ∃ m : Nat, m ≤ f.Code.length ∧ j.1 = m ∧ j.2 = keepL f l.Out to m) (fun j => f.Code.length - j.1.toNat) ⟨0, by omega, rfl, rfl⟩ ?_
  rintro again ⟨k, out⟩ ⟨m, h1, h2, h3⟩ ih
  dsimp only at h2 h3 ih ⊢
  subst h2 h3
  have hdl : (keepL f l.Out to m).length = m := by simp [keepL]
  have hsucc : keepL f l.Out to (m + 1) = keepL f l.Out to m ++ [keepB f l.Out to m] := by simp [keepL, List.range_succ]
  refine WP.bif (fun wh => ?_) (fun wh => ?_) <;> (try simp only [wpH, ne_eq] at wh)
  · have hkl := wh
    have hI := hf.at_ (k := m) ⟨by omega, wh⟩
    refine WP.chk ⟨by omega, wh⟩ fun _ => ?_
    refine WP.call (rdead20_sp hf h ⟨by omega, wh⟩) ?_
    rintro _ rfl
    have hgo : ∀ b, keepB f l.Out to m = b → WP (again ((m : Int) + 1, keepL f l.Out to m ++ [b])) (· = keepL f l.Out to f.Code.length) := fun b hb => by
      refine ih _ ⟨m + 1, by omega, by simp, ?_⟩ (by dsimp only; omega)
      rw [hsucc, hb]
    refine WP.bif (fun wh => ?_) (fun wh => ?_) <;> (try simp only [wpH, ne_eq] at wh)
    · have hnd := wh
      refine WP.bif (fun wh => ?_) (fun wh => ?_) <;> (try simp only [wpH, ne_eq] at wh)
      · obtain ⟨p1, p2⟩ := hI.dfn (by simp [remB, wh])
        obtain ⟨p3, p4⟩ := hI.use (by simp [useS, wh] : (atD f.Code m).B ∈ useS (atD f.Code m))
        refine WP.chk ⟨by omega, by omega⟩ fun _ => ?_
        refine WP.chk ⟨by omega, by omega⟩ fun _ => ?_
        refine WP.chk (by simp only [List.length_singleton]; omega) fun _ => ?_
        refine WP.chk ⟨by omega, by omega⟩ fun _ => hgo _ ?_
        simp [keepB, hnd, wh]
      · refine WP.chk (by simp only [List.length_singleton]; omega) fun _ => ?_
        refine WP.chk ⟨by omega, by omega⟩ fun _ => hgo _ ?_
        simp [keepB, hnd, wh]
    · refine WP.chk (by simp only [List.length_singleton]; omega) fun _ => ?_
      refine WP.chk ⟨by omega, by omega⟩ fun _ => hgo _ ?_
      simp [keepB, wh]
  · refine WP.ret ?_
    rw [show m = f.Code.length by omega]
end
end Go.Proofs.YtjnfnochdefpjaaGreat.Q
