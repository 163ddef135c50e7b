/- Chapter 29: greatest ways, and the laws of bounds. -/
import Derived.Test.YtmefipdgohflmaaDoorP29a
set_option linter.unusedVariables false
set_option linter.unusedSimpArgs false
namespace Go.Proofs.YtmefipdgohflmaaDoor.Q
/-! ### A greatest way -/
def bestF (B : List Int) (best j : Int) : Int := if atD B best < atD B j then j else best
def bestR (B row : List Int) : Int := row.foldl (bestF B) (atD row 0)
theorem bestR_mem {B row : List Int} (h : row ≠ []) : bestR B row ∈ row := by
  have key : ∀ (l : List Int) (b : Int), l.foldl (bestF B) b = b ∨ l.foldl (bestF B) b ∈ l := fun l => by
    induction l with
    | nil => exact fun b => .inl rfl
    | cons x r ih =>
      intro b
      rw [List.foldl_cons]
      rcases ih (bestF B b x) with h | h
      · rw [h]
        unfold bestF
        split
        · exact .inr List.mem_cons_self
        · exact .inl rfl
      · exact .inr (List.mem_cons_of_mem _ h)
  unfold bestR
  rcases key row (atD row 0) with h1 | h1
  · rw [h1]; exact atD_mem ⟨Int.le_refl _, by have := List.length_pos_iff.2 h; omega⟩
  · exact h1
def pathS (g : List (List Int)) (B : List Int) : Nat → Int → List Int
  | 0, _ => []
  | f + 1, x => if atD g x = [] then [] else bestR B (atD g x) :: pathS g B f (bestR B (atD g x))
def pathR (g : List (List Int)) (x : List Int × Int) : List Int × Int := if x.2 = 0 then (0 :: pathS g x.1 g.length 0, 0) else ([], x.2)
theorem best_loop {α : Type} {B row : List Int} (hl : row.length ≤ 1000000) {k : Int} (hk : inN k row.length) {best : Int} (h : best = (row.take k.toNat).foldl (bestF B) (atD row 0)) : bestF B best (atD row k) = (row.take (k + 1).toNat).foldl (bestF B) (atD row 0) := by
  rw [take_atD hk, List.foldl_append, ← h]; rfl
theorem AllP.okP {g : List (List Int)} {w : List Int} {x : List Int × Int} (h : AllP g w x) (h0 : x.2 = 0) : GrP g ∧ ∃ o, TopoP g o ∧ BndP g w x.1 := by
  cases h with
  | ok hr hc B hB _ =>
    have hg := (right_iff.1 hr).1
    exact ⟨hg, _, (orderS_ok hg hc).2, hB⟩
  | _ => cases h0
theorem path29_sp (g : List (List Int)) (w : List Int) (hgl : g.length ≤ 1000000) (hwl : w.length ≤ 1000000) : WP (bound_Path g w) fun r => ∃ x, AllP g w x ∧ r = pathR g x := by
  unfold bound_Path
  refine WP.call (all29_sp g w hgl hwl) fun x1 hx1 => ?_
  refine WP.bif (fun wh => ?_) (fun wh => ?_) <;> (try simp only [wpH, ne_eq] at wh)
  · exact WP.ret ⟨x1, hx1, by unfold pathR; rw [if_neg wh]⟩
  have h0 := wh
  obtain ⟨hg, o, ho, hB⟩ := hx1.okP h0
  have hlen := hg.len
  have hBl := hB.len
  have hol := ho.len
  have h0n : inN 0 g.length := ⟨Int.le_refl _, by omega⟩
  refine WP.chk h0n fun _ => ?_
  refine WP.loop (fun z => ∃ (last : Int) (f : Nat), z.1 = atD g last ∧ inN last g.length ∧ o.idxOf last < f ∧ f + z.2.length = g.length + 1 ∧ z.2 ++ pathS g x1.1 f last = 0 :: pathS g x1.1 g.length 0) (fun z => g.length + 1 - z.2.length) ⟨0, g.length, rfl, h0n, by rw [← hol]; exact List.idxOf_lt_length_iff.2 (ho.mem h0n), by simp, rfl⟩ ?_
  rintro again ⟨next, way⟩ ⟨last, f, rfl, h1, h2, h3, h4⟩ ih
  dsimp only at h3 h4 ih ⊢
  have hrl := (hg.row last h1).length
  obtain ⟨f', rfl⟩ : ∃ f', f = f' + 1 := ⟨f - 1, by omega⟩
  refine WP.bif (fun wh => ?_) (fun wh => ?_) <;> (try simp only [wpH, ne_eq] at wh)
  · have hpos := wh
    have hne : atD g last ≠ [] := fun e => by rw [e] at hpos; simp at hpos
    refine WP.chk ⟨Int.le_refl _, hpos⟩ fun _ => ?_
    refine WP.loop (fun z => 0 ≤ z.2 ∧ z.2 ≤ (atD g last).length ∧ z.1 = ((atD g last).take z.2.toNat).foldl (bestF x1.1) (atD (atD g last) 0) ∧ z.1 ∈ atD g last) (fun z => (atD g last).length - z.2.toNat) ⟨Int.le_refl _, by dsimp only; omega, rfl, atD_mem ⟨Int.le_refl _, hpos⟩⟩ ?_
    rintro again2 ⟨best, k⟩ ⟨g1, g2, g3, g4⟩ ih2
    dsimp only at g1 g2 g3 g4 ih2 ⊢
    have hbn := hg.rng last h1 best g4
    refine WP.bif (fun wh => ?_) (fun wh => ?_) <;> (try simp only [wpH, ne_eq] at wh)
    · have hk : inN k (atD g last).length := ⟨g1, wh⟩
      have hkm := atD_mem hk
      have hkn := hg.rng last h1 _ hkm
      have hst := best_loop (α := Int) (B := x1.1) (by omega) hk g3
      refine WP.chk hk fun _ => WP.chk (by rw [hBl]; exact hkn) fun _ => WP.chk (by rw [hBl]; exact hbn) fun _ => ?_
      refine WP.bif (fun wh => ?_) (fun wh => ?_) <;> (try simp only [wpH, ne_eq] at wh)
      · refine WP.chk ⟨by omega, by omega⟩ fun _ => ?_
        refine ih2 _ ⟨by dsimp only; omega, by dsimp only; omega, ?_, hkm⟩ (by dsimp only; omega)
        dsimp only
        rw [← hst]; unfold bestF; rw [if_pos wh]
      · refine WP.chk ⟨by omega, by omega⟩ fun _ => ?_
        refine ih2 _ ⟨by dsimp only; omega, by dsimp only; omega, ?_, g4⟩ (by dsimp only; omega)
        dsimp only
        rw [← hst]; unfold bestF; rw [if_neg (by omega)]
    · rw [take_all (by omega)] at g3
      have hb : best = bestR x1.1 (atD g last) := g3
      have hps : pathS g x1.1 (f' + 1) last = best :: pathS g x1.1 f' best := by
        show (if atD g last = [] then [] else _) = _
        rw [if_neg hne, ← hb]
      refine WP.chk (by simp only [List.length_cons, List.length_nil]; omega) fun _ => WP.chk hbn fun _ => ?_
      refine ih _ ⟨best, f', rfl, hbn, by have := ho.idx h1 g4; omega, by dsimp only; simp only [List.length_append, List.length_cons, List.length_nil]; omega, ?_⟩ (by dsimp only; simp only [List.length_append, List.length_cons, List.length_nil]; omega)
      dsimp only
      rw [← h4, hps]
      simp
  · have he : atD g last = [] := List.length_eq_zero_iff.1 (by omega)
    have hps : pathS g x1.1 (f' + 1) last = [] := by
      show (if atD g last = [] then [] else _) = _
      rw [if_pos he]
    rw [hps, List.append_nil] at h4
    exact WP.ret ⟨x1, hx1, by unfold pathR; rw [if_pos h0, h4]⟩
theorem path29r_sp (g : List (List Int)) (w : List Int) (hgr : ∀ r ∈ g, r.length ≤ 9223372036854775807) (hwl : w.length ≤ 1000000) : WP (r29_Path g w) fun r => ∃ x, AllP g w x ∧ r = pathR g x := by
  unfold r29_Path
  refine WP.call (all29r_sp g w hgr hwl) fun x1 hx1 => ?_
  refine WP.bif (fun wh => ?_) (fun wh => ?_) <;> (try simp only [wpH, ne_eq] at wh)
  · exact WP.ret ⟨x1, hx1, by unfold pathR; rw [if_neg wh]⟩
  have h0 := wh
  obtain ⟨hg, o, ho, hB⟩ := hx1.okP h0
  have hlen := hg.len
  have hBl := hB.len
  have hol := ho.len
  have h0n : inN 0 g.length := ⟨Int.le_refl _, by omega⟩
  refine WP.loop (fun z => ∃ (pre : List Int) (last : Int) (f : Nat), z = pre ++ [last] ∧ inN last g.length ∧ o.idxOf last < f ∧ f + z.length = g.length + 1 ∧ z ++ pathS g x1.1 f last = 0 :: pathS g x1.1 g.length 0) (fun z => g.length + 1 - z.length) ⟨[], 0, g.length, rfl, h0n, by rw [← hol]; exact List.idxOf_lt_length_iff.2 (ho.mem h0n), by simp, rfl⟩ ?_
  rintro again way ⟨pre, last, f, rfl, h1, h2, h3, h4⟩ ih
  have hrl := (hg.row last h1).length
  have e1 : ((((pre ++ [last]).length : Nat) : Int) - 1) = (pre.length : Int) := by simp
  have e2 : atD (pre ++ [last]) ((((pre ++ [last]).length : Nat) : Int) - 1) = last := by rw [e1]; exact atD_last rfl
  obtain ⟨f', rfl⟩ : ∃ f', f = f' + 1 := ⟨f - 1, by omega⟩
  have hwl2 : (pre ++ [last]).length = pre.length + 1 := by simp
  rw [e2]
  refine WP.chk ⟨by omega, by omega⟩ fun _ => WP.chk ⟨by omega, by omega⟩ fun _ => WP.chk h1 fun _ => ?_
  refine WP.bif (fun wh => ?_) (fun wh => ?_) <;> (try simp only [wpH, ne_eq] at wh)
  · have he : atD g last = [] := List.length_eq_zero_iff.1 (by omega)
    have hps : pathS g x1.1 (f' + 1) last = [] := by
      show (if atD g last = [] then [] else _) = _
      rw [if_pos he]
    rw [hps, List.append_nil] at h4
    exact WP.ret ⟨x1, hx1, by unfold pathR; rw [if_pos h0, h4]⟩
  · have hpos : 0 < ((atD g last).length : Int) := by omega
    have hne : atD g last ≠ [] := fun e => by rw [e] at hpos; simp at hpos
    refine WP.chk ⟨Int.le_refl _, hpos⟩ fun _ => ?_
    refine WP.loop (fun z => 0 ≤ z.2 ∧ z.2 ≤ (atD g last).length ∧ z.1 = ((atD g last).take z.2.toNat).foldl (bestF x1.1) (atD (atD g last) 0) ∧ z.1 ∈ atD g last) (fun z => (atD g last).length - z.2.toNat) ⟨Int.le_refl _, by dsimp only; omega, rfl, atD_mem ⟨Int.le_refl _, hpos⟩⟩ ?_
    rintro again2 ⟨best, k⟩ ⟨g1, g2, g3, g4⟩ ih2
    dsimp only at g1 g2 g3 g4 ih2 ⊢
    have hbn := hg.rng last h1 best g4
    refine WP.bif (fun wh => ?_) (fun wh => ?_) <;> (try simp only [wpH, ne_eq] at wh)
    · have hk : inN k (atD g last).length := ⟨g1, wh⟩
      have hkm := atD_mem hk
      have hkn := hg.rng last h1 _ hkm
      have hst := best_loop (α := Int) (B := x1.1) (by omega) hk g3
      refine WP.chk hk fun _ => WP.chk (by rw [hBl]; exact hkn) fun _ => WP.chk (by rw [hBl]; exact hbn) fun _ => ?_
      refine WP.bif (fun wh => ?_) (fun wh => ?_) <;> (try simp only [wpH, ne_eq] at wh)
      · refine WP.chk hk fun _ => WP.chk ⟨by omega, by omega⟩ fun _ => ?_
        refine ih2 _ ⟨by dsimp only; omega, by dsimp only; omega, ?_, hkm⟩ (by dsimp only; omega)
        dsimp only
        rw [← hst]; unfold bestF; rw [if_pos wh]
      · refine WP.chk ⟨by omega, by omega⟩ fun _ => ?_
        refine ih2 _ ⟨by dsimp only; omega, by dsimp only; omega, ?_, g4⟩ (by dsimp only; omega)
        dsimp only
        rw [← hst]; unfold bestF; rw [if_neg (by omega)]
    · rw [take_all (by omega)] at g3
      have hb : best = bestR x1.1 (atD g last) := g3
      have hps : pathS g x1.1 (f' + 1) last = best :: pathS g x1.1 f' best := by
        show (if atD g last = [] then [] else _) = _
        rw [if_neg hne, ← hb]
      refine WP.chk (by simp only [List.length_cons, List.length_nil]; omega) fun _ => ?_
      refine ih _ ⟨pre ++ [last], best, f', rfl, hbn, by have := ho.idx h1 g4; omega, by simp only [List.length_append, List.length_cons, List.length_nil] at h3 ⊢; omega, ?_⟩ (by simp only [List.length_append, List.length_cons, List.length_nil] at h3 ⊢; omega)
      rw [← h4, hps]
      simp
theorem pathS_length (g : List (List Int)) (B : List Int) : ∀ (f : Nat) (x : Int), (pathS g B f x).length ≤ f
  | 0, _ => Nat.le_refl _
  | f + 1, x => by
    unfold pathS
    split
    · simp
    · have := pathS_length g B f (bestR B (atD g x))
      simp only [List.length_cons]; omega
/-! ### Drawn weights -/
theorem weights_sp (c : DCodes) (n : Int) (hc : okC c) (hn : 0 ≤ n ∧ n ≤ 1000) : WP (draw_Weights c n) fun r => (r.1.length : Int) = n ∧ okC r.2 := by
  unfold draw_Weights
  refine WP.loop (fun z => 0 ≤ z.1 ∧ okC z.2.1 ∧ (z.2.2.length : Int) + z.1 = n) (fun z => z.1.toNat) ⟨hn.1, hc, by simp⟩ ?_
  rintro again ⟨n2, c2, w⟩ ⟨h1, h2, h3⟩ ih
  dsimp only at h1 h2 h3 ih ⊢
  refine WP.bif (fun wh => ?_) (fun wh => ?_) <;> (try simp only [wpH, ne_eq] at wh)
  · refine WP.call (next_sp _ 9 h2 (by omega)) fun x1 ⟨a1, a2, a3, _⟩ => ?_
    have a3 := a3 (by omega)
    refine WP.chk ⟨by omega, by omega⟩ fun _ => ?_
    refine WP.call (next_sp _ 20 a1 (by omega)) fun x2 ⟨b1, b2, b3, _⟩ => ?_
    refine WP.bif (fun wh => ?_) (fun wh => ?_) <;> (try simp only [wpH, ne_eq] at wh)
    · refine WP.call (next_sp _ 40 b1 (by omega)) fun x3 ⟨c1, c2, c3, _⟩ => ?_
      have c3 := c3 (by omega)
      refine WP.chk ⟨by omega, by omega⟩ fun _ => WP.chk (by simp only [List.length_cons, List.length_nil]; omega) fun _ => WP.chk ⟨by omega, by omega⟩ fun _ => ?_
      exact ih _ ⟨by dsimp only; omega, c1, by dsimp only; simp only [List.length_append, List.length_cons, List.length_nil]; omega⟩ (by dsimp only; omega)
    · refine WP.chk (by simp only [List.length_cons, List.length_nil]; omega) fun _ => WP.chk ⟨by omega, by omega⟩ fun _ => ?_
      exact ih _ ⟨by dsimp only; omega, b1, by dsimp only; simp only [List.length_append, List.length_cons, List.length_nil]; omega⟩ (by dsimp only; omega)
  · exact WP.ret ⟨by dsimp only; omega, h2⟩
theorem scene29_sp (cs : List Int) (h : isU8 cs) : WP (law29_scene cs) fun r => GrP r.1 ∧ (r.1.length : Int) ≤ 8 ∧ r.2.1.length = r.1.length ∧ okC r.2.2 := by
  unfold law29_scene
  refine WP.call (new_sp cs 120 h (by omega)) fun x1 hx1 => ?_
  refine WP.call (next_sp _ 4 hx1 (by omega)) fun x2 ⟨h1, _⟩ => ?_
  refine WP.call (graph27_sp _ 8 _ h1 (by omega)) fun x3 ⟨h2, hg, h8, _⟩ => ?_
  refine WP.call (weights_sp _ _ h2 (by omega)) fun x4 ⟨h3, h4⟩ => ?_
  exact WP.ret ⟨hg, h8, by dsimp only; omega, h4⟩
theorem awake29_sp : WP law29_awake (· = true) := by
  have hg : GrP ([[1], []] : List (List Int)) := checkG_iff.1 (by decide)
  have hac : Acyc ([[1], []] : List (List Int)) := Acyc.of_up hg fun i hi y hy => by
    have h1 := hi.1
    have h2 : i < 2 := hi.2
    have : i = 0 ∨ i = 1 := by omega
    rcases this with rfl | rfl
    · have : y = 1 := one_mem hy
      omega
    · cases hy
  unfold law29_awake
  refine WP.call (all29_sp _ _ (by simp) (by simp)) fun x hx => ?_
  have hr : rightS29 ([[1], []] : List (List Int)) [16, 32] = true := by decide
  have hB : BndP ([[1], []] : List (List Int)) [16, 32] [48, 32] := ⟨rfl, fun i hi => by
    have h1 := hi.1
    have h2 : i < 2 := hi.2
    have : i = 0 ∨ i = 1 := by omega
    rcases this with rfl | rfl <;> decide⟩
  have hok : AllP ([[1], []] : List (List Int)) [16, 32] ([48, 32], 0) := .ok hr hac _ hB fun i hi => by
    have h1 := hi.1
    have h2 : i < 2 := hi.2
    have : i = 0 ∨ i = 1 := by omega
    rcases this with rfl | rfl <;> decide
  rw [hx.uniq hok]
  refine WP.bif (fun _ => ?_) (fun wh => absurd wh (by decide))
  refine WP.bif (fun _ => ?_) (fun wh => absurd wh (by decide))
  exact WP.chk ⟨by decide, by decide⟩ fun _ => WP.ret (by decide)
theorem AllP.length {g : List (List Int)} {w : List Int} {x : List Int × Int} (h : AllP g w x) : x.1.length ≤ 80 := by
  cases h with
  | ok hr hc B hB _ =>
    have hg := (right_iff.1 hr).1
    show B.length ≤ 80
    rw [hB.len]; exact hg.len.2
  | _ => simp
theorem pl_BoundAll (cs : List Int) (raw : List (List Int)) (w : List Int) (h : isU8 cs) (hraw : ∀ r ∈ raw, r.length ≤ 9223372036854775807) (_ : ∀ z ∈ w, -9223372036854775808 ≤ z ∧ z ≤ 9223372036854775807) : WP (law29_BoundAll cs raw w) (· = true) := by
  unfold law29_BoundAll
  refine WP.call awake29_sp ?_
  rintro _ rfl
  refine WP.bif (fun wh => absurd wh (by decide)) (fun _ => ?_)
  refine WP.bif (fun wh => WP.ret rfl) (fun wh => ?_)
  have hrl : raw.length ≤ 100 := by have := of_decide_eq_false wh; omega
  refine WP.bif (fun wh => WP.ret wh) (fun wh => ?_)
  have hwl : w.length ≤ 100 := by have := of_decide_eq_false wh; omega
  refine WP.call (scene29_sp cs h) fun x3 ⟨hg, h8, hv, _⟩ => ?_
  have hgs : ∀ x ∈ [x3.1, raw], x.length ≤ 100 ∧ ∀ r ∈ x, r.length ≤ 9223372036854775807 := fun x hx => by
    rcases List.mem_cons.1 hx with rfl | hx
    · refine ⟨by omega, fun r hr => ?_⟩
      obtain ⟨k, k1, k2, rfl⟩ := mem_atD hr
      have := (hg.row k ⟨k1, k2⟩).length
      omega
    · rw [one_mem hx]; exact ⟨hrl, hraw⟩
  have hws : ∀ y ∈ [x3.2.1, w], y.length ≤ 100 := fun y hy => by
    rcases List.mem_cons.1 hy with rfl | hy
    · omega
    · rw [one_mem hy]; exact hwl
  have hgl : ([x3.1, raw] : List (List (List Int))).length = 2 := rfl
  have hwl2 : ([x3.2.1, w] : List (List Int)).length = 2 := rfl
  generalize ([x3.1, raw] : List (List (List Int))) = gs at hgs hgl ⊢
  generalize ([x3.2.1, w] : List (List Int)) = ws at hws hwl2 ⊢
  refine WP.loop (fun i => 0 ≤ i ∧ i ≤ 2) (fun i => 2 - i.toNat) ⟨by omega, by omega⟩ ?_
  rintro again i ⟨a1, a2⟩ ih
  refine WP.bif (fun wh => ?_) (fun wh => ?_) <;> (try simp only [wpH, ne_eq] at wh)
  · have hi : inN i gs.length := ⟨a1, wh⟩
    obtain ⟨q1, q2⟩ := hgs _ (atD_mem hi)
    refine WP.chk hi fun _ => ?_
    refine WP.loop (fun j => 0 ≤ j ∧ j ≤ 2) (fun j => 2 - j.toNat) ⟨by omega, by omega⟩ ?_
    rintro again2 j ⟨b1, b2⟩ ih2
    refine WP.bif (fun wh => ?_) (fun wh => ?_) <;> (try simp only [wpH, ne_eq] at wh)
    · have hj : inN j ws.length := ⟨b1, wh⟩
      have q3 := hws _ (atD_mem hj)
      refine WP.chk hj fun _ => ?_
      refine WP.call (all29_sp _ _ (by omega) (by omega)) fun x6 h6 => ?_
      refine WP.call (all29r_sp _ _ q2 (by omega)) fun x7 h7 => ?_
      refine WP.call (path29_sp _ _ (by omega) (by omega)) ?_
      rintro _ ⟨y8, h8', rfl⟩
      refine WP.call (path29r_sp _ _ q2 (by omega)) ?_
      rintro _ ⟨y9, h9, rfl⟩
      rw [h7.uniq h6, h9.uniq h6, h8'.uniq h6]
      refine WP.bif (fun wh => absurd wh (by simp)) (fun _ => ?_)
      refine WP.call (same_sp _ _ (by have := h6.length; omega)) ?_
      rintro _ rfl
      refine WP.bif (fun wh => absurd wh (by simp)) (fun _ => ?_)
      refine WP.bif (fun wh => absurd wh (by simp)) (fun _ => ?_)
      refine WP.call (same_sp _ _ ?_) ?_
      · unfold pathR
        split
        · have := pathS_length (atD gs i) x6.1 (atD gs i).length 0
          simp only [List.length_cons]; omega
        · simp
      rintro _ rfl
      refine WP.bif (fun wh => absurd wh (by simp)) (fun _ => ?_)
      exact WP.chk ⟨by omega, by omega⟩ fun _ => ih2 _ ⟨by omega, by omega⟩ (by omega)
    · exact WP.chk ⟨by omega, by omega⟩ fun _ => ih _ ⟨by omega, by omega⟩ (by omega)
  · exact WP.ret rfl
/-! ### Greater weights and more edges -/
theorem BndP.small {g : List (List Int)} (hg : GrP g) (hup : ∀ i, inN i g.length → ∀ y ∈ atD g i, i < y) {w B : List Int} (hB : BndP g w B) {c : Int} (hc : 0 ≤ c) (hw : ∀ a, inN a g.length → 0 ≤ atD w a ∧ atD w a ≤ c) : ∀ (n : Nat) (a : Int), inN a g.length → (g.length : Int) - a ≤ n → 0 ≤ atD B a ∧ atD B a ≤ c * n
  | 0, a, ha, hn => by have := ha.2; omega
  | n + 1, a, ha, hn => by
    have hcn : 0 ≤ c * (n : Int) := Int.mul_nonneg hc (by omega)
    have h1 := bR_nonneg B (atD g a)
    have h2 := bR_le (l := B) (r := atD g a) (c := c * n) hcn fun b hb => (BndP.small hg hup hB hc hw n b (hg.rng a ha b hb) (by have := hup a ha b hb; omega)).2
    have h3 := hw a ha
    have e : c * ((n + 1 : Nat) : Int) = c * n + c := by rw [Int.natCast_add, Int.mul_add]; simp
    rw [hB.val a ha, e]
    omega
theorem BndP.mono {g h : List (List Int)} (hg : GrP g) (hl : h.length = g.length) (hup : ∀ i, inN i g.length → ∀ y ∈ atD g i, i < y) {w v B B' : List Int} (hB : BndP g w B) (hB' : BndP h v B') (hsub : ∀ a, inN a g.length → ∀ y ∈ atD g a, y ∈ atD h a) (hwv : ∀ a, inN a g.length → atD w a ≤ atD v a) : ∀ (n : Nat) (a : Int), inN a g.length → (g.length : Int) - a ≤ n → atD B a ≤ atD B' a
  | 0, a, ha, hn => by have := ha.2; omega
  | n + 1, a, ha, hn => by
    have h1 := bR_le (l := B) (r := atD g a) (c := bR B' (atD h a)) (bR_nonneg _ _) fun b hb => Int.le_trans (BndP.mono hg hl hup hB hB' hsub hwv n b (hg.rng a ha b hb) (by have := hup a ha b hb; omega)) (bR_mem (hsub a ha b hb))
    have := hwv a ha
    rw [hB.val a ha, hB'.val a (by rw [hl]; exact ha)]
    omega
theorem AllP.small {g : List (List Int)} (hg : GrP g) (hup : ∀ i, inN i g.length → ∀ y ∈ atD g i, i < y) {w : List Int} (hwl : w.length = g.length) (hw : ∀ a, inN a g.length → 0 ≤ atD w a ∧ atD w a ≤ 1000) {x : List Int × Int} (h : AllP g w x) : x.2 = 0 ∧ BndP g w x.1 := by
  have hlen := hg.len
  have hr : rightS29 g w = true := right_iff.2 ⟨hg, hwl, fun a ha => by have := hw a ha; omega⟩
  cases h with
  | bad h => rw [hr] at h; cases h
  | cyc _ hc => exact absurd (Acyc.of_up hg hup) hc
  | over _ _ B hB a ha ho =>
    have := (hB.small hg hup (c := 1000) (by omega) hw g.length a ha (by have := ha.1; omega)).2
    omega
  | ok _ _ B hB _ => exact ⟨rfl, hB⟩
theorem pl_BoundIsMonotone (cs : List Int) (hcs : isU8 cs) : WP (law29_BoundIsMonotone cs) (· = true) := by
  unfold law29_BoundIsMonotone
  refine WP.call awake29_sp ?_
  rintro _ rfl
  refine WP.bif (fun wh => absurd wh (by decide)) (fun _ => ?_)
  refine WP.call (new_sp cs 150 hcs (by omega)) fun x2 hx2 => ?_
  refine WP.call (graph27_sp x2 8 true hx2 (by omega)) ?_
  rintro ⟨g, c3⟩ ⟨hc3, hg, h8, hup⟩
  dsimp only at hc3 hg h8 hup ⊢
  have hup := hup rfl
  have hlen := hg.len
  refine WP.chk (by omega) fun _ => ?_
  refine WP.loop (fun z => 0 ≤ z.1 ∧ z.1 ≤ g.length ∧ okC z.2.1 ∧ z.2.2.1.length = g.length ∧ (z.2.2.2.1.length : Int) = z.1 ∧ (z.2.2.2.2.length : Int) = z.1 ∧ (∀ a, inN a z.1 → 0 ≤ atD z.2.2.2.1 a ∧ atD z.2.2.2.1 a ≤ atD z.2.2.2.2 a ∧ atD z.2.2.2.2 a ≤ 1000) ∧ ∀ a, inN a g.length → IsS (atD z.2.2.1 a) ∧ (∀ y ∈ atD z.2.2.1 a, inN y g.length ∧ a < y) ∧ ∀ y ∈ atD g a, y ∈ atD z.2.2.1 a) (fun z => g.length - z.1.toNat)
    ⟨Int.le_refl _, by dsimp only; omega, hc3, rfl, rfl, rfl, fun a ha => by have h1 := ha.1; have h2 : a < 0 := ha.2; omega, fun a ha => ⟨hg.row a ha, fun y hy => ⟨hg.rng a ha y hy, hup a ha y hy⟩, fun y hy => hy⟩⟩ ?_
  rintro again ⟨i, c, h, w, v⟩ ⟨h1, h2, h3, h4, h5, h6, h7, h8'⟩ ih
  dsimp only at h1 h2 h3 h4 h5 h6 h7 h8' ih ⊢
  refine WP.bif (fun wh => ?_) (fun wh => ?_) <;> (try simp only [wpH, ne_eq] at wh)
  · have hi : inN i g.length := ⟨h1, wh⟩
    refine WP.call (next_sp _ 20 h3 (by omega)) fun x4 ⟨a1, a2, a3, _⟩ => ?_
    have a3 := a3 (by omega)
    refine WP.chk ⟨by omega, by omega⟩ fun _ => WP.chk (by simp only [List.length_cons, List.length_nil]; omega) fun _ => ?_
    refine WP.call (next_sp _ 3 a1 (by omega)) fun x5 ⟨b1, b2, b3, _⟩ => ?_
    have b3 := b3 (by omega)
    refine WP.chk ⟨by omega, by omega⟩ fun _ => WP.chk ⟨by omega, by omega⟩ fun _ => WP.chk (by simp only [List.length_cons, List.length_nil]; omega) fun _ => WP.chk ⟨by omega, by omega⟩ fun _ => ?_
    have fin : ∀ (c' : DCodes) (h' : List (List Int)), okC c' → h'.length = g.length → (∀ a, inN a g.length → IsS (atD h' a) ∧ (∀ y ∈ atD h' a, inN y g.length ∧ a < y) ∧ ∀ y ∈ atD g a, y ∈ atD h' a) → WP (again ((i + 1), c', h', (w ++ ([((16 : Int) * x4.1)] : List Int)), (v ++ ([(((16 : Int) * x4.1) + ((16 : Int) * x5.1))] : List Int)))) (· = true) := fun c' h' e1 e2 e3 => by
      refine ih _ ⟨by dsimp only; omega, by dsimp only; omega, e1, e2, by dsimp only; simp only [List.length_append, List.length_cons, List.length_nil]; omega, by dsimp only; simp only [List.length_append, List.length_cons, List.length_nil]; omega, fun a ha => ?_, e3⟩ (by dsimp only; omega)
      have ha2 : a < i + 1 := ha.2
      have ha1 := ha.1
      dsimp only
      by_cases e : a = i
      · rw [atD_last (by omega), atD_last (by omega)]; omega
      · rw [atD_append_left (by omega), atD_append_left (by omega)]
        exact h7 a ⟨ha1, by omega⟩
    refine WP.bif (fun wh => ?_) (fun wh => ?_) <;> (try simp only [wpH, ne_eq] at wh)
    · have hlt := wh
      refine WP.call (next_sp _ 3 b1 (by omega)) fun x6 ⟨d1, _⟩ => ?_
      refine WP.bif (fun wh => ?_) (fun wh => ?_) <;> (try simp only [wpH, ne_eq] at wh)
      · refine WP.chk hi fun _ => WP.chk ⟨by omega, by omega⟩ fun _ => WP.chk ⟨by omega, by omega⟩ fun _ => WP.chk ⟨by omega, by omega⟩ fun _ => ?_
        refine WP.call (next_sp _ _ d1 (by omega)) fun x7 ⟨e1, e2, e3, _⟩ => ?_
        have e3 := e3 (by omega)
        refine WP.chk ⟨by omega, by omega⟩ fun _ => ?_
        refine WP.call (add_sp _ _ (by have := (hg.row i hi).length; omega)) ?_
        rintro _ rfl
        have hih : inN i h.length := by rw [h4]; exact hi
        refine WP.chk hih fun _ => WP.chk ⟨by omega, by omega⟩ fun _ => ?_
        refine fin _ _ e1 (by rw [length_setD]; exact h4) fun a ha => ?_
        rw [atD_setD hih ha.1]
        by_cases e : a = i
        · rw [if_pos e, e]
          refine ⟨(hg.row i hi).add _, fun y hy => ?_, fun y hy => mem_addS.2 (.inl hy)⟩
          rcases mem_addS.1 hy with hy | ⟨rfl, _⟩
          · exact ⟨hg.rng i hi y hy, hup i hi y hy⟩
          · exact ⟨⟨by omega, by omega⟩, by omega⟩
        · rw [if_neg e]; exact h8' a ha
      · exact WP.chk ⟨by omega, by omega⟩ fun _ => fin _ _ d1 h4 h8'
    · exact WP.chk ⟨by omega, by omega⟩ fun _ => fin _ _ b1 h4 h8'
  · have hin : i = g.length := by omega
    have hwg : w.length = g.length := by omega
    have hvg : v.length = h.length := by omega
    have hh : GrP h := ⟨by rw [h4]; exact hlen, fun a ha => (h8' a (by rw [← h4]; exact ha)).1, fun a ha y hy => by rw [h4]; exact ((h8' a (by rw [← h4]; exact ha)).2.1 y hy).1⟩
    have hhup : ∀ a, inN a h.length → ∀ y ∈ atD h a, a < y := fun a ha y hy => ((h8' a (by rw [← h4]; exact ha)).2.1 y hy).2
    have h7' : ∀ a, inN a g.length → 0 ≤ atD w a ∧ atD w a ≤ atD v a ∧ atD v a ≤ 1000 := fun a ha => h7 a (by rw [hin]; exact ha)
    refine WP.call (all29_sp g w (by omega) (by omega)) ?_
    rintro ⟨B, e9⟩ h9
    obtain ⟨e9', hB⟩ := h9.small hg hup hwg fun a ha => by have := h7' a ha; omega
    dsimp only at e9' hB
    subst e9'
    refine WP.call (all29_sp h v (by omega) (by omega)) ?_
    rintro ⟨B', e10⟩ h10
    obtain ⟨e10', hB'⟩ := h10.small hh hhup hvg fun a ha => by have := h7' a (by rw [← h4]; exact ha); omega
    dsimp only at e10' hB'
    subst e10'
    have hBl := hB.len
    have hBl' := hB'.len
    refine WP.bif (fun wh => absurd wh (by simp)) (fun _ => ?_)
    refine WP.bif (fun wh => absurd wh (by simp)) (fun _ => ?_)
    refine WP.bif (fun wh => absurd wh (by simp; omega)) (fun _ => ?_)
    refine WP.bif (fun wh => absurd wh (by simp; omega)) (fun _ => ?_)
    dsimp only
    refine WP.loop (fun z => z.1 = w ∧ 0 ≤ z.2 ∧ z.2 ≤ B.length) (fun z => B.length - z.2.toNat) ⟨rfl, Int.le_refl _, by dsimp only; omega⟩ ?_
    rintro again2 ⟨w2, a⟩ ⟨hw2, a1, a2⟩ ih2
    dsimp only at hw2 a1 a2 ih2 ⊢
    subst hw2
    refine WP.bif (fun wh => ?_) (fun wh => ?_) <;> (try simp only [wpH, ne_eq] at wh)
    · have ha : inN a B.length := ⟨a1, wh⟩
      have hag : inN a g.length := by rw [← hBl]; exact ha
      refine WP.chk ha fun _ => WP.chk (by rw [hBl', h4]; exact hag) fun _ => ?_
      have hm := hB.mono hg h4 hup hB' (fun a ha => (h8' a ha).2.2) (fun a ha => (h7' a ha).2.1) g.length a hag (by omega)
      refine WP.bif (fun wh => ?_) (fun _ => ?_)
      · have := of_decide_eq_true wh; omega
      refine WP.chk ha fun _ => WP.chk (by rw [hwg]; exact hag) fun _ => ?_
      have hv := hB.val a hag
      have hn := bR_nonneg B (atD g a)
      refine WP.bif (fun wh => ?_) (fun _ => ?_)
      · have := of_decide_eq_true wh; omega
      exact WP.chk ⟨by omega, by omega⟩ fun _ => ih2 _ ⟨rfl, by dsimp only; omega, by dsimp only; omega⟩ (by dsimp only; omega)
    · exact WP.ret rfl
end Go.Proofs.YtmefipdgohflmaaDoor.Q
