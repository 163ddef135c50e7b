/- Chapter 29: greatest ways, and the laws of bounds. -/
import Derived.Test.YtpjmpkgllnomaaaDoorP29a
set_option linter.unusedVariables false
set_option linter.unusedSimpArgs false
namespace Go.Proofs.YtpjmpkgllnomaaaDoor.Q
/-! ### A greatest way -/
def bestF (B : List Int) (best j : Int) : Int := if atD B best < atD B j then j else best
def bestR (B row : List Int) : Int := row.foldl (bestF B) (atD row 0)
theorem bestR_mem {B row : List Int} (h : row ≠ []) : bestR B row ∈ row := by
  have key : ∀ (l : List Int) (b : Int), l.foldl (bestF B) b = b ∨ l.foldl (bestF B) b ∈ l := fun l => by
    induction l with
    | nil => exact fun b => .inl rfl
    | cons x r ih =>
      intro b
      rw [List.foldl_cons]
      rcases ih (bestF B b x) with h | h
      · rw [h]
        unfold bestF
        split
        · exact .inr List.mem_cons_self
        · exact .inl rfl
      · exact .inr (List.mem_cons_of_mem _ h)
  unfold bestR
  rcases key row (atD row 0) with h1 | h1
  · rw [h1]; exact atD_mem ⟨Int.le_refl _, by have := List.length_pos_iff.2 h; omega⟩
  · exact h1
def pathS (g : List (List Int)) (B : List Int) : Nat → Int → List Int
  | 0, _ => []
  | f + 1, x => if atD g x = [] then [] else bestR B (atD g x) :: pathS g B f (bestR B (atD g x))
def pathR (g : List (List Int)) (x : List Int × Int) : List Int × Int := if x.2 = 0 then (0 :: pathS g x.1 g.length 0, 0) else ([], x.2)
theorem best_loop {α : Type} {B row : List Int} (hl : row.length ≤ 1000000) {k : Int} (hk : inN k row.length) {best : Int} (h : best = (row.take k.toNat).foldl (bestF B) (atD row 0)) : bestF B best (atD row k) = (row.take (k + 1).toNat).foldl (bestF B) (atD row 0) := by
  rw [take_atD hk, List.foldl_append, ← h]; rfl
theorem AllP.okP {g : List (List Int)} {w : List Int} {x : List Int × Int} (h : AllP g w x) (h0 : x.2 = 0) : GrP g ∧ ∃ o, TopoP g o ∧ BndP g w x.1 := by
  cases h with
  | ok hr hc B hB _ =>
    have hg := (right_iff.1 hr).1
    exact ⟨hg, _, (orderS_ok hg hc).2, hB⟩
  | _ => cases h0
theorem path29_sp (g : List (List Int)) (w : List Int) (hgl : g.length ≤ 1000000) (hwl : w.length ≤ 1000000) : WP (bound_Path g w) fun r => ∃ x, AllP g w x ∧ r = pathR g x := by
  unfold bound_Path
  refine WP.call (all29_sp g w hgl hwl) fun x1 hx1 => ?_
  refine WP.bif (fun wh => ?_) (fun wh => ?_) <;> (try simp only [wpH, ne_eq] at wh)
  · exact WP.ret ⟨x1, hx1, by unfold pathR; rw [if_neg wh]⟩
  have h0 := wh
  obtain ⟨hg, o, ho, hB⟩ := hx1.okP h0
  have hlen := hg.len
  have hBl := hB.len
  have hol := ho.len
  have h0n : inN 0 g.length := ⟨Int.le_refl _, by omega⟩
  refine WP.chk h0n fun _ => ?_
  refine WP.loop (fun z => ∃ (last : Int) (f : Nat), z.1 = atD g last ∧ inN last g.length ∧ o.idxOf last < f ∧ f + z.2.length = g.length + 1 ∧ z.2 ++ pathS g x1.1 f last = 0 :: pathS g x1.1 g.length 0) (fun z => g.length + 1 - z.2.length) ⟨0, g.length, rfl, h0n, by rw [← hol]; exact List.idxOf_lt_length_iff.2 (ho.mem h0n), by simp, rfl⟩ ?_
  rintro again ⟨next, way⟩ ⟨last, f, rfl, h1, h2, h3, h4⟩ ih
  dsimp only at h3 h4 ih ⊢
  have hrl := (hg.row last h1).length
  obtain ⟨f', rfl⟩ : ∃ f', f = f' + 1 := ⟨f - 1, by omega⟩
  refine WP.bif (fun wh => ?_) (fun wh => ?_) <;> (try simp only [wpH, ne_eq] at wh)
  · have hpos := wh
    have hne : atD g last ≠ [] := fun e => by rw [e] at hpos; simp at hpos
    refine WP.chk ⟨Int.le_refl _, hpos⟩ fun _ => ?_
    refine WP.loop (fun z => 0 ≤ z.2 ∧ z.2 ≤ (atD g last).length ∧ z.1 = ((atD g last).take z.2.toNat).foldl (bestF x1.1) (atD (atD g last) 0) ∧ z.1 ∈ atD g last) (fun z => (atD g last).length - z.2.toNat) ⟨Int.le_refl _, by dsimp only; omega, rfl, atD_mem ⟨Int.le_refl _, hpos⟩⟩ ?_
    rintro again2 ⟨best, k⟩ ⟨g1, g2, g3, g4⟩ ih2
    dsimp only at g1 g2 g3 g4 ih2 ⊢
    have hbn := hg.rng last h1 best g4
    refine WP.bif (fun wh => ?_) (fun wh => ?_) <;> (try simp only [wpH, ne_eq] at wh)
    · have hk : inN k (atD g last).length := ⟨g1, wh⟩
      have hkm := atD_mem hk
      have hkn := hg.rng last h1 _ hkm
      have hst := best_loop (α := Int) (B := x1.1) (by omega) hk g3
      refine WP.chk hk fun _ => WP.chk (by rw [hBl]; exact hkn) fun _ => WP.chk (by rw [hBl]; exact hbn) fun _ => ?_
      refine WP.bif (fun wh => ?_) (fun wh => ?_) <;> (try simp only [wpH, ne_eq] at wh)
      · refine WP.chk ⟨by omega, by omega⟩ fun _ => ?_
        refine ih2 _ ⟨by dsimp only; omega, by dsimp only; omega, ?_, hkm⟩ (by dsimp only; omega)
        dsimp only
        rw [← hst]; unfold bestF; rw [if_pos wh]
      · refine WP.chk ⟨by omega, by omega⟩ fun _ => ?_
        refine ih2 _ ⟨by dsimp only; omega, by dsimp only; omega, ?_, g4⟩ (by dsimp only; omega)
        dsimp only
        rw [← hst]; unfold bestF; rw [if_neg (by omega)]
    · rw [take_all (by omega)] at g3
      have hb : best = bestR x1.1 (atD g last) := g3
      have hps : pathS g x1.1 (f' + 1) last = best :: pathS g x1.1 f' best := by
        show (if atD g last = [] then [] else _) = _
        rw [if_neg hne, ← hb]
      refine WP.chk (by simp only [List.length_cons, List.length_nil]; omega) fun _ => WP.chk hbn fun _ => ?_
      refine ih _ ⟨best, f', rfl, hbn, by have := ho.idx h1 g4; omega, by dsimp only; simp only [List.length_append, List.length_cons, List.length_nil]; omega, ?_⟩ (by dsimp only; simp only [List.length_append, List.length_cons, List.length_nil]; omega)
      dsimp only
      rw [← h4, hps]
      simp
  · have he : atD g last = [] := List.length_eq_zero_iff.1 (by omega)
    have hps : pathS g x1.1 (f' + 1) last = [] := by
      show (if atD g last = [] then [] else _) = _
      rw [if_pos he]
    rw [hps, List.append_nil] at h4
    exact WP.ret ⟨x1, hx1, by unfold pathR; rw [if_pos h0, h4]⟩
/-! ### Drawn weights -/
theorem awake29_sp : WP law29_awake (· = true) := by
  have hg : GrP ([[1], []] : List (List Int)) := checkG_iff.1 (by decide)
  have hac : Acyc ([[1], []] : List (List Int)) := Acyc.of_up hg fun i hi y hy => by
    have h1 := hi.1
    have h2 : i < 2 := hi.2
    have : i = 0 ∨ i = 1 := by omega
    rcases this with rfl | rfl
    · have : y = 1 := one_mem hy
      omega
    · cases hy
  unfold law29_awake
  refine WP.call (all29_sp _ _ (by simp) (by simp)) fun x hx => ?_
  have hr : rightS29 ([[1], []] : List (List Int)) [16, 32] = true := by decide
  have hB : BndP ([[1], []] : List (List Int)) [16, 32] [48, 32] := ⟨rfl, fun i hi => by
    have h1 := hi.1
    have h2 : i < 2 := hi.2
    have : i = 0 ∨ i = 1 := by omega
    rcases this with rfl | rfl <;> decide⟩
  have hok : AllP ([[1], []] : List (List Int)) [16, 32] ([48, 32], 0) := .ok hr hac _ hB fun i hi => by
    have h1 := hi.1
    have h2 : i < 2 := hi.2
    have : i = 0 ∨ i = 1 := by omega
    rcases this with rfl | rfl <;> decide
  rw [hx.uniq hok]
  refine WP.bif (fun _ => ?_) (fun wh => absurd wh (by decide))
  refine WP.bif (fun _ => ?_) (fun wh => absurd wh (by decide))
  exact WP.chk ⟨by decide, by decide⟩ fun _ => WP.ret (by decide)
theorem AllP.length {g : List (List Int)} {w : List Int} {x : List Int × Int} (h : AllP g w x) : x.1.length ≤ 80 := by
  cases h with
  | ok hr hc B hB _ =>
    have hg := (right_iff.1 hr).1
    show B.length ≤ 80
    rw [hB.len]; exact hg.len.2
  | _ => simp
/-! ### Greater weights and more edges -/
theorem BndP.small {g : List (List Int)} (hg : GrP g) (hup : ∀ i, inN i g.length → ∀ y ∈ atD g i, i < y) {w B : List Int} (hB : BndP g w B) {c : Int} (hc : 0 ≤ c) (hw : ∀ a, inN a g.length → 0 ≤ atD w a ∧ atD w a ≤ c) : ∀ (n : Nat) (a : Int), inN a g.length → (g.length : Int) - a ≤ n → 0 ≤ atD B a ∧ atD B a ≤ c * n
  | 0, a, ha, hn => by have := ha.2; omega
  | n + 1, a, ha, hn => by
    have hcn : 0 ≤ c * (n : Int) := Int.mul_nonneg hc (by omega)
    have h1 := bR_nonneg B (atD g a)
    have h2 := bR_le (l := B) (r := atD g a) (c := c * n) hcn fun b hb => (BndP.small hg hup hB hc hw n b (hg.rng a ha b hb) (by have := hup a ha b hb; omega)).2
    have h3 := hw a ha
    have e : c * ((n + 1 : Nat) : Int) = c * n + c := by rw [Int.natCast_add, Int.mul_add]; simp
    rw [hB.val a ha, e]
    omega
theorem AllP.small {g : List (List Int)} (hg : GrP g) (hup : ∀ i, inN i g.length → ∀ y ∈ atD g i, i < y) {w : List Int} (hwl : w.length = g.length) (hw : ∀ a, inN a g.length → 0 ≤ atD w a ∧ atD w a ≤ 1000) {x : List Int × Int} (h : AllP g w x) : x.2 = 0 ∧ BndP g w x.1 := by
  have hlen := hg.len
  have hr : rightS29 g w = true := right_iff.2 ⟨hg, hwl, fun a ha => by have := hw a ha; omega⟩
  cases h with
  | bad h => rw [hr] at h; cases h
  | cyc _ hc => exact absurd (Acyc.of_up hg hup) hc
  | over _ _ B hB a ha ho =>
    have := (hB.small hg hup (c := 1000) (by omega) hw g.length a ha (by have := ha.1; omega)).2
    omega
  | ok _ _ B hB _ => exact ⟨rfl, hB⟩
end Go.Proofs.YtpjmpkgllnomaaaDoor.Q
