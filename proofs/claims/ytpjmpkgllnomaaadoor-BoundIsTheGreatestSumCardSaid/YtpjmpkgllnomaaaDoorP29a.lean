/- Chapter 29: bounds of functions. -/
import Derived.Test.YtpjmpkgllnomaaaDoorP28a
set_option linter.unusedVariables false
set_option linter.unusedSimpArgs false
namespace Go.Proofs.YtpjmpkgllnomaaaDoor.Q
def bR (l row : List Int) : Int := row.foldl (fun m b => max m (atD l b)) 0
theorem bR_snoc (l r : List Int) (b : Int) : bR l (r ++ [b]) = max (bR l r) (atD l b) := by unfold bR; rw [List.foldl_append]; rfl
theorem snoc_ind29 {α : Type} {P : List α → Prop} (h0 : P []) (h1 : ∀ l x, P l → P (l ++ [x])) : ∀ l, P l := fun l => by
  have : ∀ (n : Nat) (l : List α), l.length = n → P l := fun n => by
    induction n with
    | zero => intro l hl; rw [List.length_eq_zero_iff.1 hl]; exact h0
    | succ n ih =>
      intro l hl
      have hne : l ≠ [] := fun e => by rw [e] at hl; simp at hl
      have := h1 l.dropLast (l.getLast hne) (ih _ (by rw [List.length_dropLast]; omega))
      rwa [List.dropLast_concat_getLast] at this
  exact this _ l rfl
theorem bR_congr {l l' : List Int} {r : List Int} : (∀ b ∈ r, atD l b = atD l' b) → bR l r = bR l' r := by
  refine snoc_ind29 (P := fun r => (∀ b ∈ r, atD l b = atD l' b) → bR l r = bR l' r) (fun _ => rfl) (fun r x ih h => ?_) r
  rw [bR_snoc, bR_snoc, ih fun b hb => h b (List.mem_append_left _ hb), h x (List.mem_append_right _ List.mem_cons_self)]
theorem bR_nonneg (l : List Int) (r : List Int) : 0 ≤ bR l r := by
  refine snoc_ind29 (P := fun r => 0 ≤ bR l r) (Int.le_refl _) (fun r x ih => ?_) r
  rw [bR_snoc]; omega
theorem bR_mem {l : List Int} {r : List Int} {b : Int} : b ∈ r → atD l b ≤ bR l r := by
  refine snoc_ind29 (P := fun r => b ∈ r → atD l b ≤ bR l r) (fun h => by cases h) (fun r x ih h => ?_) r
  rw [bR_snoc]
  rcases List.mem_append.1 h with h | h
  · have := ih h; omega
  · rw [one_mem h]; omega
theorem bR_le {l : List Int} {r : List Int} {c : Int} (hc : 0 ≤ c) : (∀ b ∈ r, atD l b ≤ c) → bR l r ≤ c := by
  refine snoc_ind29 (P := fun r => (∀ b ∈ r, atD l b ≤ c) → bR l r ≤ c) (fun _ => hc) (fun r x ih h => ?_) r
  rw [bR_snoc]
  have := ih fun b hb => h b (List.mem_append_left _ hb)
  have := h x (List.mem_append_right _ List.mem_cons_self)
  omega
/-- The bounds, without a limit. -/
structure BndP (g : List (List Int)) (w B : List Int) : Prop where
  len : B.length = g.length
  val : ∀ a, inN a g.length → atD B a = atD w a + bR B (atD g a)
theorem BndP.uniq {g : List (List Int)} (hg : GrP g) {o w B B' : List Int} (ho : TopoP g o) (h : BndP g w B) (h' : BndP g w B') : B = B' := by
  have key : ∀ (n : Nat) (a : Int), inN a g.length → o.idxOf a < n → atD B a = atD B' a := fun n => by
    induction n with
    | zero => intro a _ h; omega
    | succ n ih =>
      intro a ha hn
      rw [h.val a ha, h'.val a ha, bR_congr fun b hb => ih b (hg.rng a ha b hb) (by have := ho.idx ha hb; omega)]
  refine ext27 (by rw [h.len, h'.len]) fun k hk => ?_
  rw [h.len] at hk
  exact key _ k hk (Nat.lt_succ_self _)
theorem topo_new {g : List (List Int)} {o : List Int} (ho : TopoP g o) {i : Int} (hi : inN i o.length) : atD o i ∉ o.take i.toNat := fun hm => by
  have := ho.nodup.sublist (List.take_sublist (i + 1).toNat o)
  rw [take_atD hi, List.nodup_append] at this
  exact this.2.2 _ hm _ List.mem_cons_self rfl
theorem topo_row {g : List (List Int)} {o : List Int} (ho : TopoP g o) {n : Nat} {a b : Int} (ha : a ∈ o.take n) (hb : b ∈ atD g a) : b ∈ o.take n := by
  obtain ⟨k, hk, hk2⟩ := List.getElem_of_mem ha
  rw [List.length_take] at hk
  rw [List.getElem_take] at hk2
  have := ho.behind (k : Int) ⟨by omega, by omega⟩ b (by rw [atD_nat (by omega), hk2]; exact hb)
  rw [Int.toNat_natCast] at this
  exact (List.take_subset_take_left _ (by omega : k ≤ n)) this
theorem BndP.exists {g : List (List Int)} (hg : GrP g) {o : List Int} (ho : TopoP g o) (w : List Int) : ∃ B, BndP g w B := by
  have key : ∀ n : Nat, n ≤ o.length → ∃ B : List Int, B.length = g.length ∧ ∀ a ∈ o.take n, atD B a = atD w a + bR B (atD g a) := fun n => by
    induction n with
    | zero => exact fun _ => ⟨List.replicate g.length 0, by simp, fun a ha => by simp at ha⟩
    | succ n ih =>
      intro hn
      obtain ⟨B, h1, h2⟩ := ih (by omega)
      have hi : inN (n : Int) o.length := ⟨by omega, by omega⟩
      have hto := take_atD hi
      have hnew := topo_new ho hi
      have hbeh := ho.behind _ hi
      have hf := ho.rng _ (atD_mem hi)
      rw [Int.toNat_natCast] at hto hnew hbeh
      have en : ((n : Int) + 1).toNat = n + 1 := by omega
      rw [en] at hto
      generalize atD o (n : Int) = f at *
      have hfB : inN f B.length := by rw [h1]; exact hf
      refine ⟨setD B f (atD w f + bR B (atD g f)), by rw [length_setD]; exact h1, fun a ha => ?_⟩
      have hsame : ∀ v, ∀ b ∈ o.take n, atD (setD B f v) b = atD B b := fun v b hb => by
        rw [atD_setD hfB (ho.rng b (List.mem_of_mem_take hb)).1, if_neg (fun e => hnew (by rw [← e]; exact hb))]
      rw [hto] at ha
      rcases List.mem_append.1 ha with ha | ha
      · rw [hsame _ a ha, h2 a ha, bR_congr fun b hb => (hsame _ b (topo_row ho ha hb)).symm]
      · rw [one_mem ha, atD_setD hfB hf.1, if_pos rfl]
        congr 1
        exact bR_congr fun b hb => (hsame _ b (hbeh b hb)).symm
  obtain ⟨B, h1, h2⟩ := key o.length (Nat.le_refl _)
  rw [List.take_length] at h2
  exact ⟨B, h1, fun a ha => h2 a (ho.mem ha)⟩
/-- Weights that are right. -/
def wOk (w : List Int) : Bool := w.all fun n => decide (0 ≤ n ∧ n ≤ 2147483647)
def rightS29 (g : List (List Int)) (w : List Int) : Bool := checkG g && decide (w.length = g.length) && wOk w
/-- What comes out: the bounds, or the error. -/
inductive AllP (g : List (List Int)) (w : List Int) : List Int × Int → Prop
  | bad (h : rightS29 g w = false) : AllP g w ([], 4)
  | cyc (h : rightS29 g w = true) (hc : ¬ Acyc g) : AllP g w ([], 8)
  | over (h : rightS29 g w = true) (hc : Acyc g) (B : List Int) (hB : BndP g w B) (a : Int) (ha : inN a g.length) (ho : 2147483647 < atD B a) : AllP g w ([], 9)
  | ok (h : rightS29 g w = true) (hc : Acyc g) (B : List Int) (hB : BndP g w B) (hle : ∀ a, inN a g.length → atD B a ≤ 2147483647) : AllP g w (B, 0)
theorem right_iff {g : List (List Int)} {w : List Int} : rightS29 g w = true ↔ GrP g ∧ w.length = g.length ∧ ∀ a, inN a g.length → 0 ≤ atD w a ∧ atD w a ≤ 2147483647 := by
  unfold rightS29 wOk
  rw [Bool.and_eq_true, Bool.and_eq_true, checkG_iff, decide_eq_true_eq, all_atD]
  constructor
  · rintro ⟨⟨h1, h2⟩, h3⟩
    exact ⟨h1, h2, fun a ha => of_decide_eq_true (h3 a (by rw [h2]; exact ha))⟩
  · rintro ⟨h1, h2, h3⟩
    exact ⟨⟨h1, h2⟩, fun a ha => decide_eq_true (h3 a (by rw [← h2]; exact ha))⟩
theorem AllP.uniq {g : List (List Int)} {w : List Int} {x y : List Int × Int} (h : AllP g w x) (h' : AllP g w y) : x = y := by
  have key : ∀ {B B' : List Int}, rightS29 g w = true → Acyc g → BndP g w B → BndP g w B' → B = B' := fun hr hc hB hB' => by
    have hg := (right_iff.1 hr).1
    exact hB.uniq hg (orderS_ok hg hc).2 hB'
  cases h with
  | bad h =>
    cases h' with
    | bad => rfl
    | cyc h2 => rw [h] at h2; cases h2
    | over h2 => rw [h] at h2; cases h2
    | ok h2 => rw [h] at h2; cases h2
  | cyc h hc =>
    cases h' with
    | bad h2 => rw [h] at h2; cases h2
    | cyc => rfl
    | over _ hc2 => exact absurd hc2 hc
    | ok _ hc2 => exact absurd hc2 hc
  | over h hc B hB a ha ho =>
    cases h' with
    | bad h2 => rw [h] at h2; cases h2
    | cyc _ hc2 => exact absurd hc hc2
    | over => rfl
    | ok _ _ B' hB' hle =>
      have := key h hc hB hB'
      subst this
      have := hle a ha
      omega
  | ok h hc B hB hle =>
    cases h' with
    | bad h2 => rw [h] at h2; cases h2
    | cyc _ hc2 => exact absurd hc hc2
    | over _ _ B' hB' a ha ho =>
      have := key h hc hB hB'
      subst this
      have := hle a ha
      omega
    | ok _ _ B' hB' _ => rw [key h hc hB hB']
theorem add_ex_sp (x y : Int) (hx : 0 ≤ x ∧ x ≤ 2147483647) (hy : 0 ≤ y ∧ y ≤ 2147483647) : WP (extent_Add x y) (· = if 2147483647 < x + y then (0, 9) else (x + y, 0)) := by
  unfold extent_Add extent_bound extent_limited
  have hb : ∀ n : Int, 0 ≤ n ∧ n ≤ 2147483647 → WP (M.bif (decide (0 ≤ n)) (M.ret (decide (n ≤ 2147483647))) (M.ret false)) (· = true) := fun n hn => by
    refine WP.bif (fun _ => WP.ret (decide_eq_true hn.2)) (fun wh => ?_)
    have := of_decide_eq_false wh; omega
  refine WP.call (hb x hx) ?_
  rintro _ rfl
  refine WP.bif (fun wh => absurd wh (by decide)) (fun _ => ?_)
  refine WP.call (hb y hy) ?_
  rintro _ rfl
  refine WP.bif (fun wh => absurd wh (by decide)) (fun _ => ?_)
  refine WP.chk ⟨by omega, by omega⟩ fun _ => ?_
  refine WP.call (R := (· = if 2147483647 < x + y then ((0 : Int), (9 : Int)) else (x + y, 0))) ?_ ?_
  · refine WP.bif (fun wh => ?_) (fun wh => ?_) <;> (try simp only [wpH, ne_eq] at wh)
    · exact WP.ret (by rw [if_pos wh])
    · exact WP.ret (by rw [if_neg (by omega)])
  · rintro _ rfl
    exact WP.ret rfl
/-! ### The recursion -/
structure MemoP (g : List (List Int)) (w B : List Int) (b : Bound_bounds) : Prop where
  g_eq : b.g = g
  w_eq : b.w = w
  klen : b.known.length = g.length
  olen : b.of.length = g.length
  val : ∀ a, inN a g.length → atD b.known a = true → atD b.of a = atD B a ∧ atD B a ≤ 2147483647
def okOver (g : List (List Int)) (B : List Int) : Prop := ∃ a, inN a g.length ∧ 2147483647 < atD B a
theorem memo_at_sp {g : List (List Int)} (hg : GrP g) {w B o : List Int} (hr : rightS29 g w = true) (ho : TopoP g o) (hB : BndP g w B) : ∀ (depth : Nat) (b : Bound_bounds) (i : Int), MemoP g w B b → inN i g.length → o.idxOf i < depth →
    WP (bound_bounds_bound_at depth b i) fun r => MemoP g w B r.2.2 ∧ (∀ a, inN a g.length → atD b.known a = true → atD r.2.2.known a = true) ∧ ((r.2.1 = 0 ∧ r.1 = atD B i ∧ atD B i ≤ 2147483647 ∧ atD r.2.2.known i = true) ∨ (r.2.1 = 9 ∧ okOver g B))
  | 0, _, _, _, _, h => by omega
  | depth + 1, b, i, hb, hi, hd => by
    obtain ⟨_, hwl, hw⟩ := right_iff.1 hr
    show WP (bound_bounds_bound_body (bound_bounds_bound_at depth) b i) _
    unfold bound_bounds_bound_body
    have hik : inN i b.known.length := by rw [hb.klen]; exact hi
    have hio : inN i b.of.length := by rw [hb.olen]; exact hi
    have hrl := (hg.row i hi).length
    refine WP.chk hik fun _ => ?_
    refine WP.bif (fun wh => ?_) (fun wh => ?_)
    · obtain ⟨q1, q2⟩ := hb.val i hi wh
      exact WP.chk hio fun _ => WP.ret ⟨hb, fun _ _ h => h, .inl ⟨rfl, q1, q2, wh⟩⟩
    · rw [hb.g_eq]
      refine WP.chk hi fun _ => ?_
      refine WP.loop (fun z => 0 ≤ z.2.1 ∧ z.2.1 ≤ (atD g i).length ∧ MemoP g w B ⟨z.2.2.1, z.2.2.2.1, z.2.2.2.2.1, z.2.2.2.2.2⟩ ∧ (∀ a, inN a g.length → atD b.known a = true → atD z.2.2.2.2.1 a = true) ∧ z.1 = bR B ((atD g i).take z.2.1.toNat) ∧ ∀ j ∈ (atD g i).take z.2.1.toNat, atD B j ≤ 2147483647) (fun z => (atD g i).length - z.2.1.toNat)
        ⟨Int.le_refl _, by dsimp only; omega, ⟨rfl, hb.w_eq, hb.klen, hb.olen, hb.val⟩, fun _ _ h => h, rfl, fun j hj => by simp at hj⟩ ?_
      rintro again ⟨most, x, g1, w1, own1, own2⟩ ⟨h1, h2, h3, h4, h5, h6⟩ ih
      dsimp only at h1 h2 h3 h4 h5 h6 ih ⊢
      refine WP.bif (fun wh => ?_) (fun wh => ?_) <;> (try simp only [wpH, ne_eq] at wh)
      · have hx : inN x (atD g i).length := ⟨h1, wh⟩
        have ht := take_atD hx
        have hj := hg.rng i hi _ (atD_mem hx)
        have hjd := ho.idx hi (atD_mem hx)
        generalize atD (atD g i) x = j at ht hj hjd ⊢
        refine WP.chk hx fun _ => ?_
        refine WP.call (memo_at_sp hg hr ho hB depth _ j h3 hj (by omega)) fun r hr2 => ?_
        obtain ⟨q1, q2, q3⟩ := hr2
        rcases q3 with ⟨e1, e2, e3, e4⟩ | ⟨e1, e2⟩
        · rw [e1, e2]
          refine WP.bif (fun wh => absurd wh (by decide)) (fun _ => ?_)
          refine WP.chk ⟨by omega, by omega⟩ fun _ => ?_
          refine ih _ ⟨by dsimp only; omega, by dsimp only; omega, q1, fun a ha hk => q2 a ha (h4 a ha hk), ?_, fun j' hj' => ?_⟩ (by dsimp only; omega)
          · dsimp only
            rw [ht, bR_snoc, h5]
          · dsimp only at hj'
            rw [ht] at hj'
            rcases List.mem_append.1 hj' with hj' | hj'
            · exact h6 j' hj'
            · rw [one_mem hj']; exact e3
        · rw [e1]
          refine WP.bif (fun _ => ?_) (fun wh => absurd wh (by decide))
          exact WP.ret ⟨q1, fun a ha hk => q2 a ha (h4 a ha hk), .inr ⟨rfl, e2⟩⟩
      · rw [take_all (by omega)] at h5 h6
        have hwi := hw i hi
        have hw1 : w1 = w := h3.w_eq
        have hg1 : g1 = g := h3.g_eq
        have hk1 : own1.length = g.length := h3.klen
        have ho1 : own2.length = g.length := h3.olen
        have hv : atD B i = atD w i + most := by rw [hB.val i hi, h5]
        have hm0 := bR_nonneg B (atD g i)
        have hm1 := bR_le (l := B) (r := atD g i) (c := 2147483647) (by omega) h6
        subst hw1
        subst hg1
        refine WP.chk (by rw [hwl]; exact hi) fun _ => ?_
        refine WP.call (add_ex_sp _ _ hwi (by omega)) ?_
        rintro _ rfl
        by_cases hov : 2147483647 < atD w1 i + most
        · rw [if_pos hov]
          refine WP.bif (fun _ => ?_) (fun wh => absurd wh (by decide))
          exact WP.ret ⟨h3, h4, .inr ⟨rfl, i, hi, by omega⟩⟩
        · rw [if_neg hov]
          refine WP.bif (fun wh => absurd wh (by simp)) (fun _ => ?_)
          have hi1 : inN i own1.length := by rw [hk1]; exact hi
          have hi2 : inN i own2.length := by rw [ho1]; exact hi
          refine WP.chk hi2 fun _ => WP.chk hi1 fun _ => ?_
          have hsk : ∀ a, 0 ≤ a → atD (setD own1 i true) a = if a = i then true else atD own1 a := fun a ha => atD_setD hi1 ha
          have hso : ∀ a, 0 ≤ a → atD (setD own2 i (atD w1 i + most)) a = if a = i then atD w1 i + most else atD own2 a := fun a ha => atD_setD hi2 ha
          refine WP.ret ⟨⟨rfl, rfl, by dsimp only; rw [length_setD]; exact hk1, by dsimp only; rw [length_setD]; exact ho1, fun a ha hk => ?_⟩, fun a ha hk => ?_, .inl ⟨rfl, hv.symm, by omega, ?_⟩⟩
          · dsimp only at hk ⊢
            rw [hsk a ha.1] at hk
            rw [hso a ha.1]
            by_cases e : a = i
            · rw [if_pos e, e]; exact ⟨hv.symm, by omega⟩
            · rw [if_neg e] at hk ⊢; exact h3.val a ha hk
          · dsimp only
            rw [hsk a ha.1]
            by_cases e : a = i
            · rw [if_pos e]
            · rw [if_neg e]; exact h4 a ha hk
          · dsimp only
            rw [hsk i hi.1, if_pos rfl]
theorem all29_sp (g : List (List Int)) (w : List Int) (hgl : g.length ≤ 1000000) (hwl : w.length ≤ 1000000) : WP (bound_All g w) (AllP g w) := by
  unfold bound_All
  refine WP.call (check27_sp g (by omega)) ?_
  rintro _ rfl
  have bad1 : checkG g = false → rightS29 g w = false := fun h => by unfold rightS29; rw [h]; rfl
  refine WP.bif (fun wh => ?_) (fun wh => ?_) <;> (try simp only [wpH, ne_eq] at wh)
  · exact WP.ret (.bad (bad1 wh))
  have hcg := wh
  have hg := checkG_iff.1 wh
  have hlen := hg.len
  refine WP.bif (fun wh => ?_) (fun wh => ?_) <;> (try simp only [wpH, ne_eq] at wh)
  · refine WP.ret (.bad ?_)
    unfold rightS29
    rw [decide_eq_false (p := w.length = g.length) (by omega), Bool.and_false, Bool.false_and]
  have hwg : w.length = g.length := by omega
  have badw : ∀ a, inN a w.length → ¬ (0 ≤ atD w a ∧ atD w a ≤ 2147483647) → rightS29 g w = false := fun a ha h => by
    cases hr : rightS29 g w with
    | false => rfl
    | true => exact absurd ((right_iff.1 hr).2.2 a (by rw [← hwg]; exact ha)) h
  refine WP.loop (fun x => 0 ≤ x ∧ x ≤ w.length ∧ ∀ a, inN a w.length → a < x → 0 ≤ atD w a ∧ atD w a ≤ 2147483647) (fun x => w.length - x.toNat) ⟨Int.le_refl _, by omega, fun a ha h => by have := ha.1; omega⟩ ?_
  rintro again x ⟨h1, h2, h3⟩ ih
  refine WP.bif (fun wh => ?_) (fun wh => ?_) <;> (try simp only [wpH, ne_eq] at wh)
  · have hx : inN x w.length := ⟨h1, wh⟩
    refine WP.chk hx fun _ => ?_
    refine WP.bif (fun wh => ?_) (fun wh => ?_) <;> (try simp only [wpH, ne_eq] at wh)
    · exact WP.ret (.bad (badw x hx (by omega)))
    refine WP.bif (fun wh => ?_) (fun wh => ?_) <;> (try simp only [wpH, ne_eq] at wh)
    · exact WP.ret (.bad (badw x hx (by omega)))
    refine WP.chk ⟨by omega, by omega⟩ fun _ => ?_
    refine ih _ ⟨by omega, by omega, fun a ha hlt => ?_⟩ (by omega)
    by_cases e : a = x
    · rw [e]; omega
    · exact h3 a ha (by omega)
  · have hr : rightS29 g w = true := right_iff.2 ⟨hg, hwg, fun a ha => h3 a (by rw [hwg]; exact ha) (by have := ha.2; omega)⟩
    refine WP.call (order28_sp g hg) ?_
    rintro _ rfl
    by_cases hac : Acyc g
    · obtain ⟨he, ho⟩ := orderS_ok hg hac
      rw [he]
      refine WP.bif (fun wh => absurd wh (by decide)) (fun _ => ?_)
      obtain ⟨B, hB⟩ := BndP.exists hg ho w
      refine WP.chk ⟨by omega, by omega⟩ fun _ => WP.chk ⟨by omega, by omega⟩ fun _ => ?_
      refine WP.loop (fun z => 0 ≤ z.1 ∧ z.1 ≤ g.length ∧ MemoP g w B ⟨z.2.1, z.2.2.1, z.2.2.2.1, z.2.2.2.2⟩ ∧ ∀ a, inN a g.length → a < z.1 → atD z.2.2.2.1 a = true) (fun z => g.length - z.1.toNat)
        ⟨Int.le_refl _, by dsimp only; omega, ⟨rfl, rfl, by dsimp only; rw [length_repD]; omega, by dsimp only; rw [length_repD]; omega, fun a ha hk => by dsimp only at hk; rw [rep27] at hk; cases hk⟩, fun a ha h => by have := ha.1; dsimp only at h; omega⟩ ?_
      rintro again2 ⟨x4, g2, w2, own1, own2⟩ ⟨a1, a2, a3, a4⟩ ih2
      dsimp only at a1 a2 a3 a4 ih2 ⊢
      refine WP.bif (fun wh => ?_) (fun wh => ?_) <;> (try simp only [wpH, ne_eq] at wh)
      · have hx : inN x4 g.length := ⟨a1, wh⟩
        refine WP.call (R := fun r => MemoP g w B r.2.2 ∧ (∀ a, inN a g.length → atD own1 a = true → atD r.2.2.known a = true) ∧ ((r.2.1 = 0 ∧ r.1 = atD B x4 ∧ atD B x4 ≤ 2147483647 ∧ atD r.2.2.known x4 = true) ∨ (r.2.1 = 9 ∧ okOver g B))) ?_ ?_
        · unfold bound_bounds_bound
          exact WP.fix ((orderS g).1.idxOf x4 + 1) (memo_at_sp hg hr ho hB _ _ x4 a3 hx (Nat.lt_succ_self _))
        · rintro r ⟨q1, q2, q3⟩
          rcases q3 with ⟨e1, e2, e3, e4⟩ | ⟨e1, a, ha, e2⟩
          · rw [e1]
            refine WP.bif (fun wh => absurd wh (by decide)) (fun _ => ?_)
            refine WP.chk ⟨by omega, by omega⟩ fun _ => ?_
            refine ih2 _ ⟨by dsimp only; omega, by dsimp only; omega, q1, fun a ha hlt => ?_⟩ (by dsimp only; omega)
            dsimp only at hlt ⊢
            by_cases e : a = x4
            · rw [e]; exact e4
            · exact q2 a ha (a4 a ha (by omega))
          · rw [e1]
            refine WP.bif (fun _ => ?_) (fun wh => absurd wh (by decide))
            exact WP.ret (.over hr hac B hB a ha e2)
      · have hall : ∀ a, inN a g.length → atD own2 a = atD B a ∧ atD B a ≤ 2147483647 := fun a ha => a3.val a ha (a4 a ha (by have := ha.2; omega))
        have e : own2 = B := ext27 (by rw [hB.len]; exact a3.olen) fun k hk => (hall k (by rw [← a3.olen]; exact hk)).1
        rw [e]
        exact WP.ret (.ok hr hac B hB fun a ha => (hall a ha).2)
    · rw [orderS_cyc hg hac]
      refine WP.bif (fun _ => ?_) (fun wh => absurd wh (by decide))
      exact WP.ret (.cyc hr hac)
end Go.Proofs.YtpjmpkgllnomaaaDoor.Q
