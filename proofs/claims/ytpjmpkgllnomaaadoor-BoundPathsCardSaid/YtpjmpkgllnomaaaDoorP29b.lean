/- Chapter 29: greatest ways, and the laws of bounds. -/
import Derived.Test.YtpjmpkgllnomaaaDoorP29a
set_option linter.unusedVariables false
set_option linter.unusedSimpArgs false
namespace Go.Proofs.YtpjmpkgllnomaaaDoor.Q
/-! ### A greatest way -/
/-! ### Drawn weights -/
theorem weights_sp (c : DCodes) (n : Int) (hc : okC c) (hn : 0 ≤ n ∧ n ≤ 1000) : WP (draw_Weights c n) fun r => (r.1.length : Int) = n ∧ okC r.2 := by
  unfold draw_Weights
  refine WP.loop (fun z => 0 ≤ z.1 ∧ okC z.2.1 ∧ (z.2.2.length : Int) + z.1 = n) (fun z => z.1.toNat) ⟨hn.1, hc, by simp⟩ ?_
  rintro again ⟨n2, c2, w⟩ ⟨h1, h2, h3⟩ ih
  dsimp only at h1 h2 h3 ih ⊢
  refine WP.bif (fun wh => ?_) (fun wh => ?_) <;> (try simp only [wpH, ne_eq] at wh)
  · refine WP.call (next_sp _ 9 h2 (by omega)) fun x1 ⟨a1, a2, a3, _⟩ => ?_
    have a3 := a3 (by omega)
    refine WP.chk ⟨by omega, by omega⟩ fun _ => ?_
    refine WP.call (next_sp _ 20 a1 (by omega)) fun x2 ⟨b1, b2, b3, _⟩ => ?_
    refine WP.bif (fun wh => ?_) (fun wh => ?_) <;> (try simp only [wpH, ne_eq] at wh)
    · refine WP.call (next_sp _ 40 b1 (by omega)) fun x3 ⟨c1, c2, c3, _⟩ => ?_
      have c3 := c3 (by omega)
      refine WP.chk ⟨by omega, by omega⟩ fun _ => WP.chk (by simp only [List.length_cons, List.length_nil]; omega) fun _ => WP.chk ⟨by omega, by omega⟩ fun _ => ?_
      exact ih _ ⟨by dsimp only; omega, c1, by dsimp only; simp only [List.length_append, List.length_cons, List.length_nil]; omega⟩ (by dsimp only; omega)
    · refine WP.chk (by simp only [List.length_cons, List.length_nil]; omega) fun _ => WP.chk ⟨by omega, by omega⟩ fun _ => ?_
      exact ih _ ⟨by dsimp only; omega, b1, by dsimp only; simp only [List.length_append, List.length_cons, List.length_nil]; omega⟩ (by dsimp only; omega)
  · exact WP.ret ⟨by dsimp only; omega, h2⟩
theorem scene29_sp (cs : List Int) (h : isU8 cs) : WP (law29_scene cs) fun r => GrP r.1 ∧ (r.1.length : Int) ≤ 8 ∧ r.2.1.length = r.1.length ∧ okC r.2.2 := by
  unfold law29_scene
  refine WP.call (new_sp cs 120 h (by omega)) fun x1 hx1 => ?_
  refine WP.call (next_sp _ 4 hx1 (by omega)) fun x2 ⟨h1, _⟩ => ?_
  refine WP.call (graph27_sp _ 8 _ h1 (by omega)) fun x3 ⟨h2, hg, h8, _⟩ => ?_
  refine WP.call (weights_sp _ _ h2 (by omega)) fun x4 ⟨h3, h4⟩ => ?_
  exact WP.ret ⟨hg, h8, by dsimp only; omega, h4⟩
theorem awake29_sp : WP law29_awake (· = true) := by
  have hg : GrP ([[1], []] : List (List Int)) := checkG_iff.1 (by decide)
  have hac : Acyc ([[1], []] : List (List Int)) := Acyc.of_up hg fun i hi y hy => by
    have h1 := hi.1
    have h2 : i < 2 := hi.2
    have : i = 0 ∨ i = 1 := by omega
    rcases this with rfl | rfl
    · have : y = 1 := one_mem hy
      omega
    · cases hy
  unfold law29_awake
  refine WP.call (all29_sp _ _ (by simp) (by simp)) fun x hx => ?_
  have hr : rightS29 ([[1], []] : List (List Int)) [16, 32] = true := by decide
  have hB : BndP ([[1], []] : List (List Int)) [16, 32] [48, 32] := ⟨rfl, fun i hi => by
    have h1 := hi.1
    have h2 : i < 2 := hi.2
    have : i = 0 ∨ i = 1 := by omega
    rcases this with rfl | rfl <;> decide⟩
  have hok : AllP ([[1], []] : List (List Int)) [16, 32] ([48, 32], 0) := .ok hr hac _ hB fun i hi => by
    have h1 := hi.1
    have h2 : i < 2 := hi.2
    have : i = 0 ∨ i = 1 := by omega
    rcases this with rfl | rfl <;> decide
  rw [hx.uniq hok]
  refine WP.bif (fun _ => ?_) (fun wh => absurd wh (by decide))
  refine WP.bif (fun _ => ?_) (fun wh => absurd wh (by decide))
  exact WP.chk ⟨by decide, by decide⟩ fun _ => WP.ret (by decide)
theorem AllP.length {g : List (List Int)} {w : List Int} {x : List Int × Int} (h : AllP g w x) : x.1.length ≤ 80 := by
  cases h with
  | ok hr hc B hB _ =>
    have hg := (right_iff.1 hr).1
    show B.length ≤ 80
    rw [hB.len]; exact hg.len.2
  | _ => simp
/-! ### Greater weights and more edges -/
theorem BndP.small {g : List (List Int)} (hg : GrP g) (hup : ∀ i, inN i g.length → ∀ y ∈ atD g i, i < y) {w B : List Int} (hB : BndP g w B) {c : Int} (hc : 0 ≤ c) (hw : ∀ a, inN a g.length → 0 ≤ atD w a ∧ atD w a ≤ c) : ∀ (n : Nat) (a : Int), inN a g.length → (g.length : Int) - a ≤ n → 0 ≤ atD B a ∧ atD B a ≤ c * n
  | 0, a, ha, hn => by have := ha.2; omega
  | n + 1, a, ha, hn => by
    have hcn : 0 ≤ c * (n : Int) := Int.mul_nonneg hc (by omega)
    have h1 := bR_nonneg B (atD g a)
    have h2 := bR_le (l := B) (r := atD g a) (c := c * n) hcn fun b hb => (BndP.small hg hup hB hc hw n b (hg.rng a ha b hb) (by have := hup a ha b hb; omega)).2
    have h3 := hw a ha
    have e : c * ((n + 1 : Nat) : Int) = c * n + c := by rw [Int.natCast_add, Int.mul_add]; simp
    rw [hB.val a ha, e]
    omega
theorem AllP.small {g : List (List Int)} (hg : GrP g) (hup : ∀ i, inN i g.length → ∀ y ∈ atD g i, i < y) {w : List Int} (hwl : w.length = g.length) (hw : ∀ a, inN a g.length → 0 ≤ atD w a ∧ atD w a ≤ 1000) {x : List Int × Int} (h : AllP g w x) : x.2 = 0 ∧ BndP g w x.1 := by
  have hlen := hg.len
  have hr : rightS29 g w = true := right_iff.2 ⟨hg, hwl, fun a ha => by have := hw a ha; omega⟩
  cases h with
  | bad h => rw [hr] at h; cases h
  | cyc _ hc => exact absurd (Acyc.of_up hg hup) hc
  | over _ _ B hB a ha ho =>
    have := (hB.small hg hup (c := 1000) (by omega) hw g.length a ha (by have := ha.1; omega)).2
    omega
  | ok _ _ B hB _ => exact ⟨rfl, hB⟩
end Go.Proofs.YtpjmpkgllnomaaaDoor.Q
