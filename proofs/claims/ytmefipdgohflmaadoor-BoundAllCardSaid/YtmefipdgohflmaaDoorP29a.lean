/- Chapter 29: bounds of functions. -/
import Derived.Test.YtmefipdgohflmaaDoorP28a
set_option linter.unusedVariables false
set_option linter.unusedSimpArgs false
namespace Go.Proofs.YtmefipdgohflmaaDoor.Q
def bR (l row : List Int) : Int := row.foldl (fun m b => max m (atD l b)) 0
theorem bR_snoc (l r : List Int) (b : Int) : bR l (r ++ [b]) = max (bR l r) (atD l b) := by unfold bR; rw [List.foldl_append]; rfl
theorem snoc_ind29 {α : Type} {P : List α → Prop} (h0 : P []) (h1 : ∀ l x, P l → P (l ++ [x])) : ∀ l, P l := fun l => by
  have : ∀ (n : Nat) (l : List α), l.length = n → P l := fun n => by
    induction n with
    | zero => intro l hl; rw [List.length_eq_zero_iff.1 hl]; exact h0
    | succ n ih =>
      intro l hl
      have hne : l ≠ [] := fun e => by rw [e] at hl; simp at hl
      have := h1 l.dropLast (l.getLast hne) (ih _ (by rw [List.length_dropLast]; omega))
      rwa [List.dropLast_concat_getLast] at this
  exact this _ l rfl
theorem bR_congr {l l' : List Int} {r : List Int} : (∀ b ∈ r, atD l b = atD l' b) → bR l r = bR l' r := by
  refine snoc_ind29 (P := fun r => (∀ b ∈ r, atD l b = atD l' b) → bR l r = bR l' r) (fun _ => rfl) (fun r x ih h => ?_) r
  rw [bR_snoc, bR_snoc, ih fun b hb => h b (List.mem_append_left _ hb), h x (List.mem_append_right _ List.mem_cons_self)]
theorem bR_nonneg (l : List Int) (r : List Int) : 0 ≤ bR l r := by
  refine snoc_ind29 (P := fun r => 0 ≤ bR l r) (Int.le_refl _) (fun r x ih => ?_) r
  rw [bR_snoc]; omega
theorem bR_mem {l : List Int} {r : List Int} {b : Int} : b ∈ r → atD l b ≤ bR l r := by
  refine snoc_ind29 (P := fun r => b ∈ r → atD l b ≤ bR l r) (fun h => by cases h) (fun r x ih h => ?_) r
  rw [bR_snoc]
  rcases List.mem_append.1 h with h | h
  · have := ih h; omega
  · rw [one_mem h]; omega
theorem bR_le {l : List Int} {r : List Int} {c : Int} (hc : 0 ≤ c) : (∀ b ∈ r, atD l b ≤ c) → bR l r ≤ c := by
  refine snoc_ind29 (P := fun r => (∀ b ∈ r, atD l b ≤ c) → bR l r ≤ c) (fun _ => hc) (fun r x ih h => ?_) r
  rw [bR_snoc]
  have := ih fun b hb => h b (List.mem_append_left _ hb)
  have := h x (List.mem_append_right _ List.mem_cons_self)
  omega
/-- The bounds, without a limit. -/
structure BndP (g : List (List Int)) (w B : List Int) : Prop where
  len : B.length = g.length
  val : ∀ a, inN a g.length → atD B a = atD w a + bR B (atD g a)
theorem BndP.uniq {g : List (List Int)} (hg : GrP g) {o w B B' : List Int} (ho : TopoP g o) (h : BndP g w B) (h' : BndP g w B') : B = B' := by
  have key : ∀ (n : Nat) (a : Int), inN a g.length → o.idxOf a < n → atD B a = atD B' a := fun n => by
    induction n with
    | zero => intro a _ h; omega
    | succ n ih =>
      intro a ha hn
      rw [h.val a ha, h'.val a ha, bR_congr fun b hb => ih b (hg.rng a ha b hb) (by have := ho.idx ha hb; omega)]
  refine ext27 (by rw [h.len, h'.len]) fun k hk => ?_
  rw [h.len] at hk
  exact key _ k hk (Nat.lt_succ_self _)
theorem topo_new {g : List (List Int)} {o : List Int} (ho : TopoP g o) {i : Int} (hi : inN i o.length) : atD o i ∉ o.take i.toNat := fun hm => by
  have := ho.nodup.sublist (List.take_sublist (i + 1).toNat o)
  rw [take_atD hi, List.nodup_append] at this
  exact this.2.2 _ hm _ List.mem_cons_self rfl
theorem topo_row {g : List (List Int)} {o : List Int} (ho : TopoP g o) {n : Nat} {a b : Int} (ha : a ∈ o.take n) (hb : b ∈ atD g a) : b ∈ o.take n := by
  obtain ⟨k, hk, hk2⟩ := List.getElem_of_mem ha
  rw [List.length_take] at hk
  rw [List.getElem_take] at hk2
  have := ho.behind (k : Int) ⟨by omega, by omega⟩ b (by rw [atD_nat (by omega), hk2]; exact hb)
  rw [Int.toNat_natCast] at this
  exact (List.take_subset_take_left _ (by omega : k ≤ n)) this
theorem BndP.exists {g : List (List Int)} (hg : GrP g) {o : List Int} (ho : TopoP g o) (w : List Int) : ∃ B, BndP g w B := by
  have key : ∀ n : Nat, n ≤ o.length → ∃ B : List Int, B.length = g.length ∧ ∀ a ∈ o.take n, atD B a = atD w a + bR B (atD g a) := fun n => by
    induction n with
    | zero => exact fun _ => ⟨List.replicate g.length 0, by simp, fun a ha => by simp at ha⟩
    | succ n ih =>
      intro hn
      obtain ⟨B, h1, h2⟩ := ih (by omega)
      have hi : inN (n : Int) o.length := ⟨by omega, by omega⟩
      have hto := take_atD hi
      have hnew := topo_new ho hi
      have hbeh := ho.behind _ hi
      have hf := ho.rng _ (atD_mem hi)
      rw [Int.toNat_natCast] at hto hnew hbeh
      have en : ((n : Int) + 1).toNat = n + 1 := by omega
      rw [en] at hto
      generalize atD o (n : Int) = f at *
      have hfB : inN f B.length := by rw [h1]; exact hf
      refine ⟨setD B f (atD w f + bR B (atD g f)), by rw [length_setD]; exact h1, fun a ha => ?_⟩
      have hsame : ∀ v, ∀ b ∈ o.take n, atD (setD B f v) b = atD B b := fun v b hb => by
        rw [atD_setD hfB (ho.rng b (List.mem_of_mem_take hb)).1, if_neg (fun e => hnew (by rw [← e]; exact hb))]
      rw [hto] at ha
      rcases List.mem_append.1 ha with ha | ha
      · rw [hsame _ a ha, h2 a ha, bR_congr fun b hb => (hsame _ b (topo_row ho ha hb)).symm]
      · rw [one_mem ha, atD_setD hfB hf.1, if_pos rfl]
        congr 1
        exact bR_congr fun b hb => (hsame _ b (hbeh b hb)).symm
  obtain ⟨B, h1, h2⟩ := key o.length (Nat.le_refl _)
  rw [List.take_length] at h2
  exact ⟨B, h1, fun a ha => h2 a (ho.mem ha)⟩
/-- Weights that are right. -/
def wOk (w : List Int) : Bool := w.all fun n => decide (0 ≤ n ∧ n ≤ 2147483647)
def rightS29 (g : List (List Int)) (w : List Int) : Bool := checkG g && decide (w.length = g.length) && wOk w
/-- What comes out: the bounds, or the error. -/
inductive AllP (g : List (List Int)) (w : List Int) : List Int × Int → Prop
  | bad (h : rightS29 g w = false) : AllP g w ([], 4)
  | cyc (h : rightS29 g w = true) (hc : ¬ Acyc g) : AllP g w ([], 8)
  | over (h : rightS29 g w = true) (hc : Acyc g) (B : List Int) (hB : BndP g w B) (a : Int) (ha : inN a g.length) (ho : 2147483647 < atD B a) : AllP g w ([], 9)
  | ok (h : rightS29 g w = true) (hc : Acyc g) (B : List Int) (hB : BndP g w B) (hle : ∀ a, inN a g.length → atD B a ≤ 2147483647) : AllP g w (B, 0)
theorem right_iff {g : List (List Int)} {w : List Int} : rightS29 g w = true ↔ GrP g ∧ w.length = g.length ∧ ∀ a, inN a g.length → 0 ≤ atD w a ∧ atD w a ≤ 2147483647 := by
  unfold rightS29 wOk
  rw [Bool.and_eq_true, Bool.and_eq_true, checkG_iff, decide_eq_true_eq, all_atD]
  constructor
  · rintro ⟨⟨h1, h2⟩, h3⟩
    exact ⟨h1, h2, fun a ha => of_decide_eq_true (h3 a (by rw [h2]; exact ha))⟩
  · rintro ⟨h1, h2, h3⟩
    exact ⟨⟨h1, h2⟩, fun a ha => decide_eq_true (h3 a (by rw [← h2]; exact ha))⟩
theorem AllP.uniq {g : List (List Int)} {w : List Int} {x y : List Int × Int} (h : AllP g w x) (h' : AllP g w y) : x = y := by
  have key : ∀ {B B' : List Int}, rightS29 g w = true → Acyc g → BndP g w B → BndP g w B' → B = B' := fun hr hc hB hB' => by
    have hg := (right_iff.1 hr).1
    exact hB.uniq hg (orderS_ok hg hc).2 hB'
  cases h with
  | bad h =>
    cases h' with
    | bad => rfl
    | cyc h2 => rw [h] at h2; cases h2
    | over h2 => rw [h] at h2; cases h2
    | ok h2 => rw [h] at h2; cases h2
  | cyc h hc =>
    cases h' with
    | bad h2 => rw [h] at h2; cases h2
    | cyc => rfl
    | over _ hc2 => exact absurd hc2 hc
    | ok _ hc2 => exact absurd hc2 hc
  | over h hc B hB a ha ho =>
    cases h' with
    | bad h2 => rw [h] at h2; cases h2
    | cyc _ hc2 => exact absurd hc hc2
    | over => rfl
    | ok _ _ B' hB' hle =>
      have := key h hc hB hB'
      subst this
      have := hle a ha
      omega
  | ok h hc B hB hle =>
    cases h' with
    | bad h2 => rw [h] at h2; cases h2
    | cyc _ hc2 => exact absurd hc hc2
    | over _ _ B' hB' a ha ho =>
      have := key h hc hB hB'
      subst this
      have := hle a ha
      omega
    | ok _ _ B' hB' _ => rw [key h hc hB hB']
theorem add_ex_sp (x y : Int) (hx : 0 ≤ x ∧ x ≤ 2147483647) (hy : 0 ≤ y ∧ y ≤ 2147483647) : WP (extent_Add x y) (· = if 2147483647 < x + y then (0, 9) else (x + y, 0)) := by
  unfold extent_Add extent_bound extent_limited
  have hb : ∀ n : Int, 0 ≤ n ∧ n ≤ 2147483647 → WP (M.bif (decide (0 ≤ n)) (M.ret (decide (n ≤ 2147483647))) (M.ret false)) (· = true) := fun n hn => by
    refine WP.bif (fun _ => WP.ret (decide_eq_true hn.2)) (fun wh => ?_)
    have := of_decide_eq_false wh; omega
  refine WP.call (hb x hx) ?_
  rintro _ rfl
  refine WP.bif (fun wh => absurd wh (by decide)) (fun _ => ?_)
  refine WP.call (hb y hy) ?_
  rintro _ rfl
  refine WP.bif (fun wh => absurd wh (by decide)) (fun _ => ?_)
  refine WP.chk ⟨by omega, by omega⟩ fun _ => ?_
  refine WP.call (R := (· = if 2147483647 < x + y then ((0 : Int), (9 : Int)) else (x + y, 0))) ?_ ?_
  · refine WP.bif (fun wh => ?_) (fun wh => ?_) <;> (try simp only [wpH, ne_eq] at wh)
    · exact WP.ret (by rw [if_pos wh])
    · exact WP.ret (by rw [if_neg (by omega)])
  · rintro _ rfl
    exact WP.ret rfl
theorem add_r03_sp (x y : Int) (hx : 0 ≤ x ∧ x ≤ 2147483647) (hy : 0 ≤ y ∧ y ≤ 2147483647) : WP (r03_Add x y) (· = if 2147483647 < x + y then (0, 9) else (x + y, 0)) := by
  unfold r03_Add r03_Bound
  have hb : ∀ n : Int, 0 ≤ n ∧ n ≤ 2147483647 → WP (M.bif (decide (0 ≤ n)) (M.ret (decide (n ≤ 2147483647))) (M.ret false)) (· = true) := fun n hn => by
    refine WP.bif (fun _ => WP.ret (decide_eq_true hn.2)) (fun wh => ?_)
    have := of_decide_eq_false wh; omega
  refine WP.call (hb x hx) ?_
  rintro _ rfl
  refine WP.bif (fun wh => absurd wh (by decide)) (fun _ => ?_)
  refine WP.call (hb y hy) ?_
  rintro _ rfl
  refine WP.bif (fun wh => absurd wh (by decide)) (fun _ => ?_)
  refine WP.chk ⟨by omega, by omega⟩ fun _ => ?_
  refine WP.bif (fun wh => ?_) (fun wh => ?_) <;> (try simp only [wpH, ne_eq] at wh)
  · exact WP.ret (by rw [if_pos wh])
  · exact WP.chk ⟨by omega, by omega⟩ fun _ => WP.ret (by rw [if_neg (by omega)])
/-! ### The recursion -/
structure MemoP (g : List (List Int)) (w B : List Int) (b : Bound_bounds) : Prop where
  g_eq : b.g = g
  w_eq : b.w = w
  klen : b.known.length = g.length
  olen : b.of.length = g.length
  val : ∀ a, inN a g.length → atD b.known a = true → atD b.of a = atD B a ∧ atD B a ≤ 2147483647
def okOver (g : List (List Int)) (B : List Int) : Prop := ∃ a, inN a g.length ∧ 2147483647 < atD B a
theorem right29_sp (g : List (List Int)) (w : List Int) (hgr : ∀ r ∈ g, r.length ≤ 9223372036854775807) (hwl : w.length ≤ 1000000) : WP (r29_Right g w) (· = rightS29 g w) := by
  unfold r29_Right
  refine WP.call (check27r_sp g hgr) ?_
  rintro _ rfl
  refine WP.bif (fun wh => ?_) (fun wh => ?_) <;> (try simp only [wpH, ne_eq] at wh)
  · refine WP.ret ?_
    unfold rightS29; rw [wh]; rfl
  have hg := checkG_iff.1 wh
  have hlen := hg.len
  refine WP.bif (fun wh => ?_) (fun wh => ?_) <;> (try simp only [wpH, ne_eq] at wh)
  · refine WP.ret ?_
    unfold rightS29
    rw [decide_eq_false (p := w.length = g.length) (by omega), Bool.and_false, Bool.false_and]
  have hwg : w.length = g.length := by omega
  refine WP.loop (fun x => 0 ≤ x ∧ x ≤ w.length ∧ ∀ a, inN a w.length → a < x → 0 ≤ atD w a ∧ atD w a ≤ 2147483647) (fun x => w.length - x.toNat) ⟨Int.le_refl _, by omega, fun a ha h => by have := ha.1; omega⟩ ?_
  rintro again x ⟨h1, h2, h3⟩ ih
  refine WP.bif (fun wh => ?_) (fun wh => ?_) <;> (try simp only [wpH, ne_eq] at wh)
  · have hx : inN x w.length := ⟨h1, wh⟩
    refine WP.chk hx fun _ => ?_
    unfold r03_Bound
    refine WP.call (R := (· = decide (0 ≤ atD w x ∧ atD w x ≤ 2147483647))) ?_ ?_
    · refine WP.bif (fun wh => ?_) (fun wh => ?_) <;> (try simp only [wpH, ne_eq] at wh)
      · exact WP.ret (decide_eq_decide.2 ⟨fun h => ⟨wh, h⟩, fun h => h.2⟩)
      · exact WP.ret (decide_eq_false (by omega)).symm
    · rintro _ rfl
      refine WP.bif (fun wh => ?_) (fun wh => ?_) <;> (try simp only [wpH, ne_eq] at wh)
      · have hbad := wh
        refine WP.ret ?_
        cases hr : rightS29 g w with
        | false => rfl
        | true => exact absurd ((right_iff.1 hr).2.2 x (by rw [← hwg]; exact hx)) hbad
      · refine WP.chk ⟨by omega, by omega⟩ fun _ => ?_
        refine ih _ ⟨by omega, by omega, fun a ha hlt => ?_⟩ (by omega)
        by_cases e : a = x
        · rw [e]; exact wh
        · exact h3 a ha (by omega)
  · refine WP.ret ?_
    exact (right_iff.2 ⟨hg, hwg, fun a ha => h3 a (by rw [hwg]; exact ha) (by have := ha.2; omega)⟩).symm
theorem all29r_sp (g : List (List Int)) (w : List Int) (hgr : ∀ r ∈ g, r.length ≤ 9223372036854775807) (hwl : w.length ≤ 1000000) : WP (r29_All g w) (AllP g w) := by
  unfold r29_All
  refine WP.call (right29_sp g w hgr hwl) ?_
  rintro _ rfl
  refine WP.bif (fun wh => ?_) (fun wh => ?_) <;> (try simp only [wpH, ne_eq] at wh)
  · exact WP.ret (.bad wh)
  have hr := wh
  obtain ⟨hg, hwg, hw⟩ := right_iff.1 hr
  have hlen := hg.len
  refine WP.call (order28r_sp g hg) ?_
  rintro _ rfl
  by_cases hac : Acyc g
  · obtain ⟨he, ho⟩ := orderS_ok hg hac
    rw [he]
    refine WP.bif (fun wh => absurd wh (by decide)) (fun _ => ?_)
    obtain ⟨B, hB⟩ := BndP.exists hg ho w
    have hol := ho.len
    generalize (orderS g).1 = o at ho hol ⊢
    refine WP.chk ⟨by omega, by omega⟩ fun _ => ?_
    refine WP.loop (fun z => 0 ≤ z.1 ∧ z.1 ≤ o.length ∧ z.2.length = g.length ∧ ∀ a ∈ o.take z.1.toNat, atD z.2 a = atD B a ∧ atD B a ≤ 2147483647) (fun z => o.length - z.1.toNat) ⟨Int.le_refl _, by dsimp only; omega, by dsimp only; rw [length_repD]; omega, fun a ha => by simp at ha⟩ ?_
    rintro again ⟨i, out⟩ ⟨h1, h2, h3, h4⟩ ih
    dsimp only at h1 h2 h3 h4 ih ⊢
    refine WP.bif (fun wh => ?_) (fun wh => ?_) <;> (try simp only [wpH, ne_eq] at wh)
    · have hi : inN i o.length := ⟨h1, wh⟩
      have hto := take_atD hi
      have hnew := topo_new ho hi
      have hbeh := ho.behind i hi
      have hf := ho.rng _ (atD_mem hi)
      generalize atD o i = f at hto hnew hbeh hf ⊢
      have hrl := (hg.row f hf).length
      have hfo : inN f out.length := by rw [h3]; exact hf
      refine WP.chk hi fun _ => ?_
      refine WP.loop (fun z => 0 ≤ z.2 ∧ z.2 ≤ (atD g f).length ∧ z.1 = bR B ((atD g f).take z.2.toNat)) (fun z => (atD g f).length - z.2.toNat) ⟨Int.le_refl _, by dsimp only; omega, rfl⟩ ?_
      rintro again2 ⟨most, k⟩ ⟨g1, g2, g3⟩ ih2
      dsimp only at g1 g2 g3 ih2 ⊢
      refine WP.chk hf fun _ => ?_
      refine WP.bif (fun wh => ?_) (fun wh => ?_) <;> (try simp only [wpH, ne_eq] at wh)
      · have hk : inN k (atD g f).length := ⟨g1, wh⟩
        have htk := take_atD hk
        have hj := hg.rng f hf _ (atD_mem hk)
        have hjv := h4 _ (hbeh _ (atD_mem hk))
        have hjo : inN (atD (atD g f) k) out.length := by rw [h3]; exact hj
        refine WP.chk hf fun _ => WP.chk hk fun _ => WP.chk hjo fun _ => WP.chk ⟨by omega, by omega⟩ fun _ => ?_
        refine ih2 _ ⟨by dsimp only; omega, by dsimp only; omega, ?_⟩ (by dsimp only; omega)
        dsimp only
        rw [htk, bR_snoc, g3, hjv.1]
      · rw [take_all (by omega)] at g3
        have hwf := hw f hf
        have hm0 := bR_nonneg B (atD g f)
        have hm1 := bR_le (l := B) (r := atD g f) (c := 2147483647) (by omega) fun b hb => (h4 b (hbeh b hb)).2
        have hv : atD B f = atD w f + most := by rw [hB.val f hf, g3]
        refine WP.chk (by rw [hwg]; exact hf) fun _ => ?_
        refine WP.call (add_r03_sp _ _ hwf (by omega)) ?_
        rintro _ rfl
        refine WP.chk hfo fun _ => ?_
        by_cases hov : 2147483647 < atD w f + most
        · rw [if_pos hov]
          refine WP.bif (fun _ => ?_) (fun wh => absurd wh (by decide))
          exact WP.ret (.over hr hac B hB f hf (by omega))
        · rw [if_neg hov]
          refine WP.bif (fun wh => absurd wh (by simp)) (fun _ => ?_)
          refine WP.chk ⟨by omega, by omega⟩ fun _ => ?_
          refine ih _ ⟨by dsimp only; omega, by dsimp only; omega, by dsimp only; rw [length_setD]; exact h3, fun a ha => ?_⟩ (by dsimp only; omega)
          dsimp only at ha ⊢
          rw [hto] at ha
          rcases List.mem_append.1 ha with ha | ha
          · rw [atD_setD hfo (ho.rng a (List.mem_of_mem_take ha)).1, if_neg (fun e => hnew (by rw [← e]; exact ha))]
            exact h4 a ha
          · rw [one_mem ha, atD_setD hfo hf.1, if_pos rfl]
            exact ⟨hv.symm, by omega⟩
    · rw [take_all (by omega)] at h4
      have e : out = B := ext27 (by rw [hB.len, h3]) fun k hk => (h4 k (ho.mem (by rw [← h3]; exact hk))).1
      rw [e]
      exact WP.ret (.ok hr hac B hB fun a ha => (h4 a (ho.mem ha)).2)
  · rw [orderS_cyc hg hac]
    refine WP.bif (fun _ => ?_) (fun wh => absurd wh (by decide))
    exact WP.ret (.cyc hr hac)
end Go.Proofs.YtmefipdgohflmaaDoor.Q
