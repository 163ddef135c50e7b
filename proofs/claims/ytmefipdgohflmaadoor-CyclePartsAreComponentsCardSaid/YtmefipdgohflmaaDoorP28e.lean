/- Chapter 28: the parts of a graph, and the five laws. -/
import Derived.Test.YtmefipdgohflmaaDoorP28d
set_option linter.unusedVariables false
set_option linter.unusedSimpArgs false
namespace Go.Proofs.YtmefipdgohflmaaDoor.Q
theorem meet_sp (a b : List Int) (hl : a.length ≤ 1000000000) (hb : b.length ≤ 1000000000) : WP (r04_Meet a b) (· = a.filter fun x => decide (x ∈ b)) := by
  unfold r04_Meet
  refine WP.loop (fun j => 0 ≤ j.1 ∧ j.1 ≤ a.length ∧ j.2 = (a.take j.1.toNat).filter fun x => decide (x ∈ b)) (fun j => a.length - j.1.toNat) ⟨Int.le_refl _, by dsimp only; omega, by simp⟩ ?_
  rintro again ⟨i, out⟩ ⟨h1, h2, h3⟩ ih
  dsimp only at h1 h2 h3 ih ⊢
  have hol : out.length ≤ a.length := by
    rw [h3]
    refine Nat.le_trans (List.length_filter_le _ _) ?_
    rw [List.length_take]; omega
  refine WP.bif (fun wh => ?_) (fun wh => ?_) <;> (try simp only [wpH, ne_eq] at wh)
  · have hi : inN i a.length := ⟨h1, wh⟩
    have ht := take_atD hi
    refine WP.chk hi fun _ => ?_
    refine WP.call (has_sp _ _ hb) ?_
    rintro _ rfl
    refine WP.bif (fun wh => ?_) (fun wh => ?_) <;> (try simp only [wpH, ne_eq] at wh)
    · refine WP.chk hi fun _ => WP.chk (by simp only [List.length_cons, List.length_nil]; omega) fun _ => WP.chk ⟨by omega, by omega⟩ fun _ => ?_
      refine ih _ ⟨by dsimp only; omega, by dsimp only; omega, ?_⟩ (by dsimp only; omega)
      dsimp only
      rw [ht, List.filter_append, ← h3]
      simp [wh]
    · refine WP.chk ⟨by omega, by omega⟩ fun _ => ?_
      refine ih _ ⟨by dsimp only; omega, by dsimp only; omega, ?_⟩ (by dsimp only; omega)
      dsimp only
      rw [ht, List.filter_append, ← h3]
      simp [wh]
  · rw [take_all (by omega)] at h3
    exact WP.ret h3
/-- The smallest function that can be reached and reaches back. -/
structure IsPart (g : List (List Int)) (i y : Int) : Prop where
  to : Way g i y
  back : Way g y i
  least : ∀ z, Way g i z → Way g z i → y ≤ z
structure PartP (g : List (List Int)) (l : List Int) : Prop where
  len : l.length = g.length
  part : ∀ i, inN i g.length → IsPart g i (atD l i)
theorem IsPart.uniq {g : List (List Int)} {i y y' : Int} (h : IsPart g i y) (h' : IsPart g i y') : y = y' := by
  have := h.least y' h'.to h'.back
  have := h'.least y h.to h.back
  omega
theorem PartP.uniq {g : List (List Int)} {l l' : List Int} (h : PartP g l) (h' : PartP g l') : l = l' := ext27 (by rw [h.len, h'.len]) fun k hk => by
  rw [h.len] at hk
  exact (h.part k hk).uniq (h'.part k hk)
/-- The first element of such a set. -/
theorem part_of {g : List (List Int)} {i : Int} {s : List Int} (hs : IsS s) (hm : ∀ y, y ∈ s ↔ Way g i y ∧ Way g y i) : 0 < s.length ∧ IsPart g i (atD s 0) := by
  have hi : i ∈ s := (hm i).2 ⟨.refl, .refl⟩
  have hpos := List.length_pos_of_mem hi
  have h0 := (hm _).1 (atD_mem (l := s) (i := 0) ⟨Int.le_refl _, by omega⟩)
  refine ⟨hpos, h0.1, h0.2, fun z h1 h2 => ?_⟩
  obtain ⟨n, hn, rfl⟩ := List.getElem_of_mem ((hm z).2 ⟨h1, h2⟩)
  have e : atD s 0 = s[0] := atD_nat (l := s) (i := 0) hpos
  rw [e]
  cases n with
  | zero => exact Int.le_refl _
  | succ n => exact Int.le_of_lt (List.pairwise_iff_getElem.1 hs.asc 0 (n + 1) hpos hn (by omega))
theorem parts_sp (g : List (List Int)) (hg : GrP g) : WP (cycle_Parts g) (PartP g) := by
  have hlen := hg.len
  unfold cycle_Parts
  refine WP.call (turn27_sp g hg) ?_
  rintro _ rfl
  refine WP.loop (fun z => 0 ≤ z.1 ∧ z.1 ≤ g.length ∧ (z.2.length : Int) = z.1 ∧ ∀ i, inN i z.2.length → IsPart g i (atD z.2 i)) (fun z => g.length - z.1.toNat) ⟨Int.le_refl _, by dsimp only; omega, rfl, fun i hi => by have := hi.1; have h2 : i < 0 := hi.2; omega⟩ ?_
  rintro again ⟨x, l⟩ ⟨h1, h2, h3, h4⟩ ih
  dsimp only at h1 h2 h3 h4 ih ⊢
  refine WP.bif (fun wh => ?_) (fun wh => ?_) <;> (try simp only [wpH, ne_eq] at wh)
  · have hx : inN x g.length := ⟨h1, wh⟩
    refine WP.call (reach27_sp g hg x) fun x3 h5 => ?_
    refine WP.call (reach27_sp _ hg.turn x) fun x4 h6 => ?_
    have h5 := h5.ins hx
    have h6 := h6.ins (by rw [turnS_length]; exact hx)
    unfold bitset_Meet
    refine WP.call (R := (· = setOf (x3.filter fun x => decide (x ∈ x4)))) (WP.ret rfl) fun x5 hx5 => ?_
    have hS : IsS x5 := by rw [hx5]; exact IsS.setOf _
    have hM : ∀ y, y ∈ x5 ↔ Way g x y ∧ Way g y x := fun y => by
      rw [hx5, mem_setOf, List.mem_filter, decide_eq_true_eq, h5.mem, h6.mem]
      constructor
      · rintro ⟨⟨q1, q2⟩, _⟩
        exact ⟨q1, (Way.turn_iff hg (q1.rng hg hx) hx).1 q2⟩
      · rintro ⟨q1, q2⟩
        have hy := q1.rng hg hx
        exact ⟨⟨q1, (Way.turn_iff hg hy hx).2 q2⟩, hy.1, by have := hy.2; omega⟩
    clear hx5
    obtain ⟨q1, q2⟩ := part_of hS hM
    refine WP.chk ⟨Int.le_refl _, by omega⟩ fun _ => WP.chk (by simp only [List.length_cons, List.length_nil]; omega) fun _ => WP.chk ⟨by omega, by omega⟩ fun _ => ?_
    refine ih _ ⟨by dsimp only; omega, by dsimp only; omega, by dsimp only; simp only [List.length_append, List.length_cons, List.length_nil]; omega, fun i hi => ?_⟩ (by dsimp only; omega)
    dsimp only at hi ⊢
    by_cases e : i = x
    · rw [atD_last (by omega), e]; exact q2
    · have hil : i < (l.length : Int) := by have := hi.2; simp only [List.length_append, List.length_cons, List.length_nil] at this; omega
      rw [atD_append_left (by have := hi.1; omega)]
      exact h4 i ⟨hi.1, hil⟩
  · exact WP.ret ⟨by omega, fun i hi => h4 i (by rw [show l.length = g.length by omega]; exact hi)⟩
theorem parts28r_sp (g : List (List Int)) (hg : GrP g) : WP (r28_Parts g) (PartP g) := by
  have hlen := hg.len
  unfold r28_Parts
  refine WP.call (turn27r_sp g hg) ?_
  rintro _ rfl
  refine WP.loop (fun z => 0 ≤ z.1 ∧ z.1 ≤ g.length ∧ (z.2.length : Int) = z.1 ∧ ∀ i, inN i z.2.length → IsPart g i (atD z.2 i)) (fun z => g.length - z.1.toNat) ⟨Int.le_refl _, by dsimp only; omega, rfl, fun i hi => by have := hi.1; have h2 : i < 0 := hi.2; omega⟩ ?_
  rintro again ⟨x, l⟩ ⟨h1, h2, h3, h4⟩ ih
  dsimp only at h1 h2 h3 h4 ih ⊢
  refine WP.bif (fun wh => ?_) (fun wh => ?_) <;> (try simp only [wpH, ne_eq] at wh)
  · have hx : inN x g.length := ⟨h1, wh⟩
    refine WP.call (reach27r_sp g hg x) fun x3 h5 => ?_
    refine WP.call (reach27r_sp _ hg.turn x) fun x4 h6 => ?_
    have h5 := h5.ins hx
    have h6 := h6.ins (by rw [turnS_length]; exact hx)
    refine WP.call (meet_sp _ _ (by have := h5.set.length; omega) (by have := h6.set.length; omega)) fun x5 hx5 => ?_
    have hS : IsS x5 := by rw [hx5]; exact h5.set.filter _
    have hM : ∀ y, y ∈ x5 ↔ Way g x y ∧ Way g y x := fun y => by
      rw [hx5, List.mem_filter, decide_eq_true_eq, h5.mem, h6.mem]
      constructor
      · rintro ⟨q1, q2⟩
        exact ⟨q1, (Way.turn_iff hg (q1.rng hg hx) hx).1 q2⟩
      · rintro ⟨q1, q2⟩
        exact ⟨q1, (Way.turn_iff hg (q1.rng hg hx) hx).2 q2⟩
    clear hx5
    obtain ⟨q1, q2⟩ := part_of hS hM
    refine WP.chk ⟨Int.le_refl _, by omega⟩ fun _ => WP.chk (by simp only [List.length_cons, List.length_nil]; omega) fun _ => WP.chk ⟨by omega, by omega⟩ fun _ => ?_
    refine ih _ ⟨by dsimp only; omega, by dsimp only; omega, by dsimp only; simp only [List.length_append, List.length_cons, List.length_nil]; omega, fun i hi => ?_⟩ (by dsimp only; omega)
    dsimp only at hi ⊢
    by_cases e : i = x
    · rw [atD_last (by omega), e]; exact q2
    · have hil : i < (l.length : Int) := by have := hi.2; simp only [List.length_append, List.length_cons, List.length_nil] at this; omega
      rw [atD_append_left (by have := hi.1; omega)]
      exact h4 i ⟨hi.1, hil⟩
  · exact WP.ret ⟨by omega, fun i hi => h4 i (by rw [show l.length = g.length by omega]; exact hi)⟩
/-! ### The cycle -/
theorem path_facts {g : List (List Int)} {t : Int} : ∀ {m : Nat} {x : Int} {l : List Int}, PathP g t m x l → WalkN g t (m + 1) x → (∀ n, n < m → ¬ WalkN g t (n + 1) x) →
    l.length = m ∧ ∀ k : Nat, k ≤ m → ∃ y, (x :: l)[k]? = some y ∧ WalkN g t (m + 1 - k) y ∧ (1 ≤ k → ∀ n, n < m + 1 - k → ¬ WalkN g t n y) ∧ (k < m → ∃ z, (x :: l)[k + 1]? = some z ∧ z ∈ atD g y) ∧ Way g x y
  | 0, x, l, h, hw, hno => by
    have h : l = [] := h
    subst h
    refine ⟨rfl, fun k hk => ?_⟩
    have : k = 0 := by omega
    subst this
    exact ⟨x, rfl, hw, fun h => by omega, fun h => by omega, .refl⟩
  | m + 1, x, l, h, hw, hno => by
    obtain ⟨k0, r, h1, h2, h3, rfl, h5⟩ := h
    have hym : atD (atD g x) k0 ∈ atD g x := atD_mem h1
    generalize atD (atD g x) k0 = y at *
    have hny : ∀ n, n < m + 1 → ¬ WalkN g t n y := fun n hn hw' => hno n hn ⟨y, hym, hw'⟩
    obtain ⟨q1, q2⟩ := path_facts h5 h2 fun n hn => hny (n + 1) (by omega)
    refine ⟨by simp [q1], fun k hk => ?_⟩
    cases k with
    | zero => exact ⟨x, rfl, hw, fun h => by omega, fun _ => ⟨y, rfl, hym⟩, .refl⟩
    | succ k =>
      obtain ⟨z, r1, r2, r3, r4, r5⟩ := q2 k (by omega)
      refine ⟨z, by simpa using r1, ?_, fun _ n hn => ?_, fun hlt => ?_, Way.head hym r5⟩
      · have e : m + 1 + 1 - (k + 1) = m + 1 - k := by omega
        rw [e]; exact r2
      · by_cases hk0 : k = 0
        · subst hk0
          have : z = y := by simpa using r1.symm
          rw [this]; exact hny n (by omega)
        · exact r3 (by omega) n (by omega)
      · obtain ⟨z', s1, s2⟩ := r4 (by omega)
        exact ⟨z', by simpa using s1, s2⟩
structure CycP (g : List (List Int)) (l : List Int) : Prop where
  pos : 0 < l.length
  rng : ∀ i, inN i l.length → inN (atD l i) g.length
  next : ∀ i, inN i l.length → (if i + 1 < (l.length : Int) then atD l (i + 1) else atD l 0) ∈ atD g (atD l i)
  least : ∀ i, inN i l.length → atD l 0 ≤ atD l i
  once : ∀ i k, inN i l.length → 0 ≤ k → k < i → atD l k ≠ atD l i
  short : l.length ≤ g.length
theorem FindP.cyc {g : List (List Int)} (hg : GrP g) {l : List Int} (h : FindP g l true) : CycP g l := by
  cases h with
  | some t m p h hp =>
    obtain ⟨h1, h2⟩ := path_facts hp h.walk h.short
    have hat : ∀ i, inN i (t :: p).length → ∃ y, atD (t :: p) i = y ∧ (t :: p)[i.toNat]? = Option.some y ∧ WalkN g t (m + 1 - i.toNat) y ∧ (1 ≤ i.toNat → ∀ n, n < m + 1 - i.toNat → ¬ WalkN g t n y) ∧ (i.toNat < m → ∃ z, (t :: p)[i.toNat + 1]? = Option.some z ∧ z ∈ atD g y) ∧ Way g t y := fun i hi => by
      have hb := hi.2
      simp only [List.length_cons, h1] at hb
      obtain ⟨y, q1, q2⟩ := h2 i.toNat (by have := hi.1; omega)
      refine ⟨y, ?_, q1, q2⟩
      unfold atD
      rw [List.getD_eq_getElem?_getD, q1]; rfl
    have hrng : ∀ i, inN i (t :: p).length → inN (atD (t :: p) i) g.length := fun i hi => by
      obtain ⟨y, q1, _, _, _, _, q2⟩ := hat i hi
      rw [q1]; exact q2.rng hg h.rng
    have honce : ∀ i k, inN i (t :: p).length → 0 ≤ k → k < i → atD (t :: p) k ≠ atD (t :: p) i := fun i k hi hk hki e => by
      obtain ⟨y, q1, _, q2, q3, _⟩ := hat i hi
      obtain ⟨y', r1, _, r2, _⟩ := hat k ⟨hk, by have := hi.2; omega⟩
      have hb := hi.2
      simp only [List.length_cons, h1] at hb
      rw [q1, r1] at e
      subst e
      by_cases hk0 : k = 0
      · subst hk0
        have e0 : atD (t :: p) 0 = t := rfl
        rw [e0] at r1
        exact q3 (by omega) 0 (by omega) r1.symm
      · obtain ⟨_, s1, _, _, s3, _⟩ := hat k ⟨hk, by have := hi.2; omega⟩
        rw [r1] at s1; subst s1
        exact s3 (by omega) _ (by omega) q2
    refine ⟨by simp, hrng, fun i hi => ?_, fun i hi => ?_, honce, ?_⟩
    · have hb := hi.2
      simp only [List.length_cons, h1] at hb
      obtain ⟨y, q1, _, q2, _, q4, _⟩ := hat i hi
      rw [q1]
      by_cases hlt : i + 1 < (((t :: p).length : Nat) : Int)
      · rw [if_pos hlt]
        simp only [List.length_cons, h1] at hlt
        obtain ⟨z, r1, r2⟩ := q4 (by have := hi.1; omega)
        have e : atD (t :: p) (i + 1) = z := by
          have e2 : (i + 1).toNat = i.toNat + 1 := by have := hi.1; omega
          unfold atD
          rw [List.getD_eq_getElem?_getD, e2, r1]; rfl
        rw [e]; exact r2
      · rw [if_neg hlt]
        simp only [List.length_cons, h1] at hlt
        have e : m + 1 - i.toNat = 0 + 1 := by have := hi.1; omega
        rw [e] at q2
        obtain ⟨z, hz, hzt⟩ := q2
        have hzt : z = t := hzt
        show t ∈ atD g y
        rw [← hzt]; exact hz
    · obtain ⟨y, q1, _, q2, _, _, q5⟩ := hat i hi
      have e0 : atD (t :: p) 0 = t := rfl
      rw [e0, q1]
      refine Classical.byContradiction fun hno => ?_
      have hb := hi.2
      simp only [List.length_cons, h1] at hb
      have e : m + 1 - i.toNat = (m - i.toNat) + 1 := by have := hi.1; omega
      rw [e] at q2
      obtain ⟨z, hz, hzw⟩ := q2
      obtain ⟨n, hn⟩ := (hzw.way.trans q5).walk
      exact h.least y (q5.rng hg h.rng) (by omega) n ⟨z, hz, hn⟩
    · refine rangeI_length ?_ fun y hy => ?_
      · refine List.pairwise_iff_getElem.2 fun a b ha hb hab => ?_
        have := honce (b : Int) (a : Int) ⟨by omega, by omega⟩ (by omega) (by omega)
        rwa [atD_nat ha, atD_nat hb] at this
      · obtain ⟨k, k1, k2, rfl⟩ := mem_atD hy
        exact hrng k ⟨k1, k2⟩
/-! ### The laws -/
theorem scene28_sp (cs : List Int) (h : isU8 cs) : WP (law28_scene cs) GrP := by
  unfold law28_scene
  refine WP.call (new_sp cs 100 h (by omega)) fun x1 hx1 => ?_
  refine WP.call (next_sp _ 2 hx1 (by omega)) fun x2 ⟨h1, _⟩ => ?_
  exact WP.call (graph27_sp _ 9 _ h1 (by omega)) fun x3 ⟨_, hg, _⟩ => WP.ret hg
theorem awake28_sp : WP law28_awake (· = true) := by
  have hg : GrP ([[1], []] : List (List Int)) := checkG_iff.1 (by decide)
  unfold law28_awake
  refine WP.call (order28_sp _ hg) ?_
  rintro _ rfl
  have e : orderS ([[1], []] : List (List Int)) = ([1, 0], 0) := by decide
  rw [e]
  refine WP.bif (fun _ => ?_) (fun wh => absurd wh (by decide))
  refine WP.bif (fun _ => ?_) (fun wh => absurd wh (by decide))
  exact WP.chk ⟨by decide, by decide⟩ fun _ => WP.ret (by decide)
theorem orderS_length {g : List (List Int)} (hg : GrP g) : (orderS g).1.length ≤ g.length := by
  rcases orderS_spec hg with h | ⟨h, _⟩
  · rw [h.2.len]; exact Nat.le_refl _
  · rw [h]; simp
theorem pl_CycleOrder (cs : List Int) (h : isU8 cs) : WP (law28_CycleOrder cs) (· = true) := by
  unfold law28_CycleOrder
  refine WP.call awake28_sp ?_
  rintro _ rfl
  refine WP.bif (fun wh => absurd wh (by decide)) (fun _ => ?_)
  refine WP.call (scene28_sp cs h) fun g hg => ?_
  have hlen := hg.len
  refine WP.call (order28_sp g hg) ?_
  rintro _ rfl
  refine WP.call (order28r_sp g hg) ?_
  rintro _ rfl
  have fin : ∀ (L : List Int) (e : Int), L.length ≤ 1000 → WP (M.bif (decide ((orderS g).2 = (orderS g).2)) (M.call (r04_Same (orderS g).1 (orderS g).1) fun x7 => M.bif x7 (M.bif (decide ((L, e).2 = (L, e).2)) (M.call (r04_Same (L, e).1 (L, e).1) fun x8 => M.ret x8) (M.ret false)) (M.ret false)) (M.ret false)) (· = true) := fun L e hL => by
    refine WP.bif (fun _ => ?_) (fun wh => absurd wh (by simp))
    refine WP.call (same_sp _ _ (by have := orderS_length hg; omega)) ?_
    rintro _ rfl
    refine WP.bif (fun _ => ?_) (fun wh => absurd wh (by simp))
    refine WP.bif (fun _ => ?_) (fun wh => absurd wh (by simp))
    refine WP.call (same_sp _ _ (by dsimp only; omega)) ?_
    rintro _ rfl
    exact WP.ret (by simp)
  by_cases hac : Acyc g
  · obtain ⟨⟨L, e⟩, _, hL, he⟩ := levels28r_sp g hg hac
    dsimp only at hL he
    refine WP.call (levels_sp g hg hac hL) ?_
    rintro _ rfl
    refine WP.call (levels28r_sp g hg hac) ?_
    rintro ⟨L', e'⟩ ⟨hL', he'⟩
    dsimp only at hL' he'
    have := hL'.uniq hg (orderS_ok hg hac).2 hL
    subst this; subst he'
    exact fin L' 0 (by rw [hL'.len]; omega)
  · refine WP.call (levels_cyc g hg hac) ?_
    rintro _ rfl
    refine WP.call (levels28r_cyc g hg hac) ?_
    rintro _ rfl
    exact fin [] 8 (by simp)
theorem pl_CycleFind (cs : List Int) (h : isU8 cs) : WP (law28_CycleFind cs) (· = true) := by
  unfold law28_CycleFind
  refine WP.call awake28_sp ?_
  rintro _ rfl
  refine WP.bif (fun wh => absurd wh (by decide)) (fun _ => ?_)
  refine WP.call (scene28_sp cs h) fun g hg => ?_
  have hlen := hg.len
  refine WP.call (find28_sp g hg) fun x3 h3 => ?_
  refine WP.call (find28r_sp g hg) fun x4 h4 => ?_
  obtain ⟨e1, e2⟩ := h3.uniq h4
  rw [← e1, ← e2]
  refine WP.bif (fun _ => ?_) (fun wh => absurd wh (by simp))
  have hl : x3.1.length ≤ 1000 := by
    obtain ⟨l, b⟩ := x3
    dsimp only at h3 ⊢
    cases b with
    | false => cases h3; simp
    | true => have := h3.cyc hg |>.short; omega
  refine WP.call (same_sp _ _ (by omega)) ?_
  rintro _ rfl
  refine WP.bif (fun _ => ?_) (fun wh => absurd wh (by simp))
  refine WP.call (parts_sp g hg) fun x6 h6 => ?_
  refine WP.call (parts28r_sp g hg) fun x7 h7 => ?_
  refine WP.call (same_sp _ _ (by rw [h6.len]; omega)) ?_
  rintro _ rfl
  exact WP.ret (decide_eq_true (h6.uniq h7))
theorem pl_CycleFoundIsACycle (cs : List Int) (h : isU8 cs) : WP (law28_CycleFoundIsACycle cs) (· = true) := by
  unfold law28_CycleFoundIsACycle
  refine WP.call awake28_sp ?_
  rintro _ rfl
  refine WP.bif (fun wh => absurd wh (by decide)) (fun _ => ?_)
  refine WP.call (scene28_sp cs h) fun g hg => ?_
  have hlen := hg.len
  refine WP.call (find28_sp g hg) ?_
  rintro ⟨l, b⟩ h3
  dsimp only at h3 ⊢
  refine WP.call (order28_sp g hg) ?_
  rintro _ rfl
  cases b with
  | false =>
    have hac := (h3.acyc hg).1 rfl
    have he := (orderS_ok hg hac).1
    cases h3
    rw [he]
    refine WP.bif (fun wh => absurd wh (by decide)) (fun _ => ?_)
    refine WP.bif (fun _ => ?_) (fun wh => absurd wh (by decide))
    refine WP.join (fun x => x = true) (fun x hx => WP.ret hx) fun k hk => ?_
    refine WP.bif (fun _ => ?_) (fun wh => absurd wh (by decide))
    refine WP.bif (fun _ => ?_) (fun wh => absurd wh (by decide))
    exact hk _ (by simp)
  | true =>
    have hac : ¬ Acyc g := fun hac => by have := (h3.acyc hg).2 hac; cases this
    have hc := h3.cyc hg
    rw [orderS_cyc hg hac]
    refine WP.bif (fun wh => absurd wh (by decide)) (fun _ => ?_)
    refine WP.bif (fun wh => absurd wh (by decide)) (fun _ => ?_)
    have hcl := hc.short
    have hcp := hc.pos
    refine WP.loop (fun i => 0 ≤ i ∧ i ≤ l.length) (fun i => l.length - i.toNat) ⟨by omega, by omega⟩ ?_
    rintro again i ⟨a1, a2⟩ ih
    refine WP.bif (fun wh => ?_) (fun wh => ?_) <;> (try simp only [wpH, ne_eq] at wh)
    · have hi : inN i l.length := ⟨a1, wh⟩
      have hrn := hc.rng i hi
      refine WP.chk ⟨by omega, by omega⟩ fun _ => ?_
      refine WP.join (fun x => x = if i + 1 < (l.length : Int) then atD l (i + 1) else atD l 0) ?_ ?_
      · rintro _ rfl
        refine WP.chk hi fun _ => ?_
        refine WP.bif (fun wh => ?_) (fun _ => ?_)
        · have := of_decide_eq_true wh; have := hrn.1; omega
        refine WP.chk hi fun _ => ?_
        refine WP.bif (fun wh => ?_) (fun _ => ?_)
        · have := of_decide_eq_true wh; have := hrn.2; omega
        refine WP.chk hi fun _ => WP.chk hrn fun _ => ?_
        refine WP.call (has_sp _ _ (by have := (hg.row _ hrn).length; omega)) ?_
        rintro _ rfl
        rw [decide_eq_true (hc.next i hi)]
        refine WP.bif (fun wh => absurd wh (by decide)) (fun _ => ?_)
        refine WP.chk hi fun _ => WP.chk ⟨by omega, by omega⟩ fun _ => ?_
        refine WP.bif (fun wh => ?_) (fun _ => ?_)
        · have := of_decide_eq_true wh; have := hc.least i hi; omega
        refine WP.loop (fun k => 0 ≤ k ∧ k ≤ i) (fun k => i.toNat - k.toNat) ⟨by omega, by omega⟩ ?_
        rintro again2 k ⟨b1, b2⟩ ih2
        refine WP.bif (fun wh => ?_) (fun wh => ?_) <;> (try simp only [wpH, ne_eq] at wh)
        · have hki := wh
          refine WP.chk ⟨b1, by omega⟩ fun _ => WP.chk hi fun _ => ?_
          refine WP.bif (fun wh => ?_) (fun _ => ?_)
          · exact absurd (of_decide_eq_true wh) (hc.once i k hi b1 hki)
          · exact WP.chk ⟨by omega, by omega⟩ fun _ => ih2 _ ⟨by omega, by omega⟩ (by omega)
        · exact WP.chk ⟨by omega, by omega⟩ fun _ => ih _ ⟨by omega, by omega⟩ (by omega)
      · intro k hk
        refine WP.chk ⟨by omega, by omega⟩ fun _ => ?_
        refine WP.bif (fun wh => ?_) (fun wh => ?_) <;> (try simp only [wpH, ne_eq] at wh)
        · refine WP.chk ⟨by omega, by omega⟩ fun _ => WP.chk ⟨by omega, by omega⟩ fun _ => ?_
          exact hk _ (by rw [if_pos wh])
        · exact hk _ (by rw [if_neg (by omega)])
    · exact WP.ret (decide_eq_true (by omega))
theorem pl_CycleOrderIsTopological (cs : List Int) (h : isU8 cs) : WP (law28_CycleOrderIsTopological cs) (· = true) := by
  unfold law28_CycleOrderIsTopological
  refine WP.call awake28_sp ?_
  rintro _ rfl
  refine WP.bif (fun wh => absurd wh (by decide)) (fun _ => ?_)
  refine WP.call (new_sp cs 100 h (by omega)) fun x2 hx2 => ?_
  refine WP.call (graph27_sp x2 12 true hx2 (by omega)) ?_
  rintro ⟨g, c3⟩ ⟨_, hg, _, hup⟩
  dsimp only at hg hup ⊢
  have hlen := hg.len
  have hac := Acyc.of_up hg (hup rfl)
  obtain ⟨he, ho⟩ := orderS_ok hg hac
  refine WP.call (order28_sp g hg) ?_
  rintro _ rfl
  obtain ⟨⟨L, e⟩, _, hL, _⟩ := levels28r_sp g hg hac
  dsimp only at hL
  refine WP.call (levels_sp g hg hac hL) ?_
  rintro _ rfl
  have hol := ho.len
  refine WP.bif (fun wh => absurd wh (by rw [he]; decide)) (fun _ => ?_)
  refine WP.bif (fun wh => absurd wh (by simp)) (fun _ => ?_)
  refine WP.bif (fun wh => absurd wh (by rw [hol]; simp)) (fun _ => ?_)
  refine WP.bif (fun wh => absurd wh (by dsimp only; rw [hL.len]; simp)) (fun _ => ?_)
  generalize (orderS g).1 = o at ho hol ⊢
  refine WP.loop (fun z => 0 ≤ z.2 ∧ z.2 ≤ o.length ∧ IsS z.1 ∧ ∀ y, y ∈ z.1 ↔ y ∈ o.take z.2.toNat) (fun z => o.length - z.2.toNat) ⟨Int.le_refl _, by dsimp only; omega, IsS.nil, fun y => by simp⟩ ?_
  rintro again ⟨done, i⟩ ⟨h1, h2, h3, h4⟩ ih
  dsimp only at h1 h2 h3 h4 ih ⊢
  have hdl := h3.length
  refine WP.bif (fun wh => ?_) (fun wh => ?_) <;> (try simp only [wpH, ne_eq] at wh)
  · have hi : inN i o.length := ⟨h1, wh⟩
    have hto := take_atD hi
    have hbeh := ho.behind i hi
    have hf := ho.rng _ (atD_mem hi)
    have hfn : atD o i ∉ o.take i.toNat := fun hm => by
      have := ho.nodup.sublist (List.take_sublist (i + 1).toNat o)
      rw [hto, List.nodup_append] at this
      exact this.2.2 _ hm _ List.mem_cons_self rfl
    generalize hF : atD o i = f at hto hbeh hf hfn ⊢
    have hrl := (hg.row f hf).length
    have hfL : inN f L.length := by rw [hL.len]; exact hf
    refine WP.chk hi fun _ => ?_
    refine WP.bif (fun wh => ?_) (fun _ => ?_)
    · have := of_decide_eq_true wh; have := hf.1; omega
    refine WP.chk hi fun _ => ?_
    refine WP.bif (fun wh => ?_) (fun _ => ?_)
    · have := of_decide_eq_true wh; have := hf.2; omega
    refine WP.chk hi fun _ => ?_
    refine WP.call (has_sp _ _ (by omega)) ?_
    rintro _ rfl
    rw [decide_eq_false (fun hm => hfn ((h4 f).1 hm))]
    refine WP.bif (fun wh => by cases wh) (fun _ => ?_)
    refine WP.chk hi fun _ => WP.chk hf fun _ => ?_
    refine WP.call (within_sp _ _ (by omega) (by omega)) ?_
    rintro _ rfl
    rw [decide_eq_true (p := ∀ x ∈ atD g f, x ∈ done) fun x hx => (h4 x).2 (hbeh x hx)]
    refine WP.bif (fun wh => absurd wh (by decide)) (fun _ => ?_)
    refine WP.loop (fun z => 0 ≤ z.2 ∧ z.2 ≤ (atD g f).length ∧ z.1 = levR L ((atD g f).take z.2.toNat)) (fun z => (atD g f).length - z.2.toNat) ⟨Int.le_refl _, by dsimp only; omega, rfl⟩ ?_
    rintro again2 ⟨most, k⟩ ⟨g1, g2, g3⟩ ih2
    dsimp only at g1 g2 g3 ih2 ⊢
    refine WP.chk hi fun _ => WP.chk hf fun _ => ?_
    refine WP.bif (fun wh => ?_) (fun wh => ?_) <;> (try simp only [wpH, ne_eq] at wh)
    · have hk : inN k (atD g f).length := ⟨g1, wh⟩
      have htk := take_atD hk
      have hj := hg.rng f hf _ (atD_mem hk)
      have hjv := hL.rng _ hj
      have hjL : inN (atD (atD g f) k) L.length := by rw [hL.len]; exact hj
      refine WP.chk hi fun _ => WP.chk hf fun _ => WP.chk hk fun _ => WP.chk hjL fun _ => WP.chk ⟨by omega, by omega⟩ fun _ => WP.chk ⟨by omega, by omega⟩ fun _ => ?_
      refine ih2 _ ⟨by dsimp only; omega, by dsimp only; omega, ?_⟩ (by dsimp only; omega)
      dsimp only
      rw [htk, levR_snoc, g3]
    · rw [take_all (by omega)] at g3
      refine WP.chk hi fun _ => WP.chk hfL fun _ => ?_
      refine WP.bif (fun wh => absurd wh (by rw [g3, ← hL.val f hf]; simp)) (fun _ => ?_)
      refine WP.chk hi fun _ => ?_
      refine WP.call (add_sp _ _ (by omega)) ?_
      rintro _ rfl
      refine WP.chk ⟨by omega, by omega⟩ fun _ => ?_
      refine ih _ ⟨by dsimp only; omega, by dsimp only; omega, h3.add _, fun y => ?_⟩ (by dsimp only; omega)
      dsimp only
      rw [addS_mem ⟨hf.1, by have := hf.2; omega⟩, h4, hto, List.mem_append, List.mem_singleton]
  · exact WP.ret rfl
theorem pl_CyclePartsAreComponents (cs : List Int) (h : isU8 cs) : WP (law28_CyclePartsAreComponents cs) (· = true) := by
  unfold law28_CyclePartsAreComponents
  refine WP.call awake28_sp ?_
  rintro _ rfl
  refine WP.bif (fun wh => absurd wh (by decide)) (fun _ => ?_)
  refine WP.call (scene28_sp cs h) fun g hg => ?_
  have hlen := hg.len
  refine WP.call (parts_sp g hg) fun p hp => ?_
  have hpl := hp.len
  refine WP.bif (fun wh => absurd wh (by rw [hpl]; simp)) (fun _ => ?_)
  have hboth : ∀ i j, inN i g.length → inN j g.length → ((Way g i j ∧ Way g j i) ↔ atD p i = atD p j) := fun i j hi hj => by
    have h1 := hp.part i hi
    have h2 := hp.part j hj
    constructor
    · rintro ⟨q1, q2⟩
      have := h1.least _ (q1.trans h2.to) (h2.back.trans q2)
      have := h2.least _ (q2.trans h1.to) (h1.back.trans q1)
      omega
    · intro e
      rw [e] at h1
      exact ⟨h1.to.trans h2.back, h2.to.trans h1.back⟩
  have hle : ∀ i, inN i g.length → atD p i ≤ i := fun i hi => (hp.part i hi).least i .refl .refl
  refine WP.loop (fun z => 0 ≤ z.2 ∧ z.2 ≤ g.length ∧ (z.1 = true → ¬ Acyc g) ∧ (z.1 = false → ∀ a, inN a g.length → a < z.2 → a ∉ atD g a ∧ ∀ b, inN b g.length → b ≠ a → ¬ (Way g a b ∧ Way g b a))) (fun z => g.length - z.2.toNat) ⟨Int.le_refl _, by dsimp only; omega, fun h => (by cases h), fun _ a ha hlt => by have := ha.1; dsimp only at hlt; omega⟩ ?_
  rintro again ⟨loop1, i⟩ ⟨a1, a2, a3, a4⟩ ih
  dsimp only at a1 a2 a3 a4 ih ⊢
  refine WP.bif (fun wh => ?_) (fun wh => ?_) <;> (try simp only [wpH, ne_eq] at wh)
  · have hi : inN i g.length := ⟨a1, wh⟩
    have hip : inN i p.length := by rw [hpl]; exact hi
    refine WP.call (reach27r_sp g hg i) fun x4 h4 => ?_
    have h4 := h4.ins hi
    have h4l := h4.set.length
    refine WP.join (fun b => (b = true → ¬ Acyc g) ∧ (b = false → loop1 = false ∧ i ∉ atD g i)) ?_ ?_
    · rintro loop2 ⟨b1, b2⟩
      refine WP.loop (fun z => 0 ≤ z.2 ∧ z.2 ≤ g.length ∧ (z.1 = true → ¬ Acyc g) ∧ (z.1 = false → loop1 = false ∧ i ∉ atD g i ∧ ∀ b, inN b g.length → b < z.2 → b ≠ i → ¬ (Way g i b ∧ Way g b i))) (fun z => g.length - z.2.toNat) ⟨Int.le_refl _, by dsimp only; omega, b1, fun h => ⟨(b2 h).1, (b2 h).2, fun b hb hlt => by have := hb.1; dsimp only at hlt; omega⟩⟩ ?_
      rintro again2 ⟨loop3, j⟩ ⟨c1, c2, c3, c4⟩ ih2
      dsimp only at c1 c2 c3 c4 ih2 ⊢
      refine WP.bif (fun wh => ?_) (fun wh => ?_) <;> (try simp only [wpH, ne_eq] at wh)
      · have hj : inN j g.length := ⟨c1, wh⟩
        have hjp : inN j p.length := by rw [hpl]; exact hj
        have more : ∀ b : Bool, (b = true → ¬ Acyc g) → (b = false → loop3 = false ∧ (j ≠ i → ¬ (Way g i j ∧ Way g j i))) → WP (again2 (b, (j + 1))) (· = true) := fun b d1 d2 => by
          refine ih2 _ ⟨by dsimp only; omega, by dsimp only; omega, d1, fun hb => ?_⟩ (by dsimp only; omega)
          obtain ⟨e1, e2⟩ := d2 hb
          obtain ⟨e3, e4, e5⟩ := c4 e1
          refine ⟨e3, e4, fun b hb hlt hne => ?_⟩
          dsimp only at hlt
          by_cases e : b = j
          · rw [e] at hne ⊢; exact e2 hne
          · exact e5 b hb (by omega) hne
        refine WP.call (has_sp _ _ (by omega)) ?_
        rintro _ rfl
        refine WP.bif (fun wh => ?_) (fun wh => ?_) <;> (try simp only [wpH, ne_eq] at wh)
        · have hwij := (h4.mem j).1 wh
          refine WP.call (reach27r_sp g hg j) fun x6 h6 => ?_
          have h6 := h6.ins hj
          refine WP.call (has_sp _ _ (by have := h6.set.length; omega)) ?_
          rintro _ rfl
          have ew : decide (i ∈ x6) = decide (atD p i = atD p j) := decide_eq_decide.2 (by rw [h6.mem, ← hboth i j hi hj]; exact ⟨fun h => ⟨hwij, h⟩, fun h => h.2⟩)
          refine WP.chk hip fun _ => WP.chk hjp fun _ => ?_
          refine WP.bif (fun wh => absurd wh (by rw [ew]; simp)) (fun _ => ?_)
          refine WP.chk hip fun _ => ?_
          refine WP.bif (fun wh => ?_) (fun _ => ?_)
          · have := of_decide_eq_true wh; have := hle i hi; omega
          refine WP.bif (fun wh => ?_) (fun wh => ?_)
          · exact WP.chk ⟨by omega, by omega⟩ fun _ => more true (fun _ => c3 wh) (fun h => by cases h)
          have hl3 := wh
          refine WP.bif (fun wh => ?_) (fun wh => ?_) <;> (try simp only [wpH, ne_eq] at wh)
          · have hwji := (h6.mem i).1 wh
            refine WP.chk ⟨by omega, by omega⟩ fun _ => more _ (fun hb hac => ?_) (fun hb => ⟨hl3, fun hne => ?_⟩)
            · have hne : i ≠ j := by simpa using hb
              obtain ⟨m, hm⟩ := hwij.walk
              cases m with
              | zero => exact hne hm
              | succ m =>
                obtain ⟨y, hy, hyw⟩ := hm
                exact hac i hi y hy (hyw.way.trans hwji)
            · have : i = j := by simpa using hb
              exact absurd this.symm hne
          · exact WP.chk ⟨by omega, by omega⟩ fun _ => more false (fun h => by cases h) (fun _ => ⟨hl3, fun _ hw => wh ((h6.mem i).2 hw.2)⟩)
        · have hnw : ¬ Way g i j := fun hw => wh ((h4.mem j).2 hw)
          have en : decide (atD p i = atD p j) = false := decide_eq_false fun e => hnw ((hboth i j hi hj).2 e).1
          refine WP.chk hip fun _ => WP.chk hjp fun _ => ?_
          rw [en]
          refine WP.bif (fun wh => absurd wh (by decide)) (fun _ => ?_)
          refine WP.chk hip fun _ => ?_
          refine WP.bif (fun wh => ?_) (fun _ => ?_)
          · have := of_decide_eq_true wh; have := hle i hi; omega
          refine WP.bif (fun wh => ?_) (fun wh => ?_)
          · exact WP.chk ⟨by omega, by omega⟩ fun _ => more true (fun _ => c3 wh) (fun h => by cases h)
          · exact WP.chk ⟨by omega, by omega⟩ fun _ => more false (fun h => by cases h) (fun _ => ⟨wh, fun _ hw => hnw hw.1⟩)
      · refine WP.chk ⟨by omega, by omega⟩ fun _ => ?_
        refine ih _ ⟨by dsimp only; omega, by dsimp only; omega, c3, fun hb a ha hlt => ?_⟩ (by dsimp only; omega)
        dsimp only at hlt
        obtain ⟨e1, e2, e3⟩ := c4 hb
        by_cases e : a = i
        · rw [e]; exact ⟨e2, fun b hb hne => e3 b hb (by have := hb.2; omega) hne⟩
        · exact a4 e1 a ha (by omega)
    · intro k hk
      refine WP.bif (fun wh => ?_) (fun wh => ?_)
      · exact hk _ ⟨fun _ => a3 wh, fun h => by cases h⟩
      · refine WP.chk hi fun _ => ?_
        refine WP.call (has_sp _ _ (by have := (hg.row i hi).length; omega)) ?_
        rintro _ rfl
        exact hk _ ⟨fun h hac => hac i hi i (of_decide_eq_true h) .refl, fun h => ⟨wh, of_decide_eq_false h⟩⟩
  · refine WP.call (find28_sp g hg) fun x9 h9 => ?_
    refine WP.ret ?_
    have h10 := h9.acyc hg
    cases loop1 with
    | true =>
      have := a3 rfl
      cases hx : x9.2 with
      | true => rfl
      | false => exact absurd (h10.1 hx) this
    | false =>
      have hac : Acyc g := fun a ha b hb hw => by
        obtain ⟨q1, q2⟩ := a4 rfl a ha (by have := ha.2; omega)
        by_cases e : b = a
        · rw [e] at hb; exact q1 hb
        · exact q2 b (hg.rng a ha b hb) e ⟨Way.refl.step hb, hw⟩
      rw [h10.2 hac]; rfl
end Go.Proofs.YtmefipdgohflmaaDoor.Q
