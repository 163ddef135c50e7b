/- Chapter 28: the cycle that is found, on both sides. -/
import Derived.Test.YtmefipdgohflmaaDoorP28b
set_option linter.unusedVariables false
set_option linter.unusedSimpArgs false
namespace Go.Proofs.YtmefipdgohflmaaDoor.Q
/-- The closest of these. -/
structure ClP (d s : List Int) (best : Int) (found : Bool) : Prop where
  no : found = false → ∀ j ∈ s, ¬ atD d j < 81
  yes : found = true → ∃ k, inN k s.length ∧ best = atD s k ∧ atD d best < 81 ∧ (∀ j ∈ s, atD d best ≤ atD d j) ∧ ∀ k', 0 ≤ k' → k' < k → atD d best < atD d (atD s k')
theorem closest_sp (s d : List Int) (hl : s.length ≤ 1000000) (hr : ∀ j ∈ s, inN j d.length) : WP (cycle_Find_1 s d) fun r => r.2.2 = d ∧ ClP d s r.1 r.2.1 := by
  unfold cycle_Find_1
  refine WP.loop (fun z => 0 ≤ z.2.2 ∧ z.2.2 ≤ s.length ∧ (z.2.1 = false → ∀ j ∈ s.take z.2.2.toNat, ¬ atD d j < 81) ∧ (z.2.1 = true → ∃ k, 0 ≤ k ∧ k < z.2.2 ∧ z.1 = atD s k ∧ atD d z.1 < 81 ∧ (∀ j ∈ s.take z.2.2.toNat, atD d z.1 ≤ atD d j) ∧ ∀ k', 0 ≤ k' → k' < k → atD d z.1 < atD d (atD s k'))) (fun z => s.length - z.2.2.toNat) ⟨Int.le_refl _, by dsimp only; omega, fun _ j hj => by simp at hj, fun h => by cases h⟩ ?_
  rintro again ⟨best, found, x⟩ ⟨h1, h2, h3, h4⟩ ih
  dsimp only at h1 h2 h3 h4 ih ⊢
  refine WP.bif (fun wh => ?_) (fun wh => ?_) <;> (try simp only [wpH, ne_eq] at wh)
  · have hx : inN x s.length := ⟨h1, wh⟩
    have ht := take_atD hx
    have hxd := hr _ (atD_mem hx)
    refine WP.chk hx fun _ => WP.chk hxd fun _ => ?_
    refine WP.bif (fun wh => ?_) (fun wh => ?_) <;> (try simp only [wpH, ne_eq] at wh)
    · have hd := wh
      refine WP.bif (fun wh => ?_) (fun wh => ?_) <;> (try simp only [wpH, ne_eq] at wh)
      · refine WP.chk ⟨by omega, by omega⟩ fun _ => ?_
        refine ih _ ⟨by dsimp only; omega, by dsimp only; omega, fun h => (by cases h), fun _ => ⟨x, h1, by dsimp only; omega, rfl, hd, fun j hj => ?_, fun k' q1 q2 => ?_⟩⟩ (by dsimp only; omega)
        · dsimp only at hj ⊢
          rw [ht] at hj
          rcases List.mem_append.1 hj with hj | hj
          · have := h3 wh j hj; omega
          · rw [one_mem hj]; exact Int.le_refl _
        · have hm : atD s k' ∈ s.take x.toNat := by
            obtain ⟨n, rfl⟩ := Int.eq_ofNat_of_zero_le q1
            rw [atD_nat (by omega)]
            exact List.mem_take_iff_getElem.2 ⟨n, by omega, rfl⟩
          have := h3 wh _ hm
          dsimp only; omega
      · have hft := wh
        obtain ⟨k, q1, q2, q3, q4, q5, q6⟩ := h4 wh
        have hbd : inN best d.length := by rw [q3]; exact hr _ (atD_mem ⟨q1, by omega⟩)
        refine WP.chk hxd fun _ => WP.chk hbd fun _ => ?_
        refine WP.bif (fun wh => ?_) (fun wh => ?_) <;> (try simp only [wpH, ne_eq] at wh)
        · have hlt := wh
          refine WP.chk ⟨by omega, by omega⟩ fun _ => ?_
          refine ih _ ⟨by dsimp only; omega, by dsimp only; omega, fun h => (by cases h), fun _ => ⟨x, h1, by dsimp only; omega, rfl, hd, fun j hj => ?_, fun k' r1 r2 => ?_⟩⟩ (by dsimp only; omega)
          · dsimp only at hj ⊢
            rw [ht] at hj
            rcases List.mem_append.1 hj with hj | hj
            · have := q5 j hj; omega
            · rw [one_mem hj]; exact Int.le_refl _
          · have hm : atD s k' ∈ s.take x.toNat := by
              obtain ⟨n, rfl⟩ := Int.eq_ofNat_of_zero_le r1
              rw [atD_nat (by omega)]
              exact List.mem_take_iff_getElem.2 ⟨n, by omega, rfl⟩
            have := q5 _ hm
            dsimp only; omega
        · have hge := wh
          refine WP.chk ⟨by omega, by omega⟩ fun _ => ?_
          refine ih _ ⟨by dsimp only; omega, by dsimp only; omega, fun h => absurd (hft.symm.trans h) (by decide), fun _ => ⟨k, q1, by dsimp only; omega, q3, q4, fun j hj => ?_, q6⟩⟩ (by dsimp only; omega)
          dsimp only at hj ⊢
          rw [ht] at hj
          rcases List.mem_append.1 hj with hj | hj
          · exact q5 j hj
          · rw [one_mem hj]; exact hge
    · have hd := wh
      refine WP.chk ⟨by omega, by omega⟩ fun _ => ?_
      refine ih _ ⟨by dsimp only; omega, by dsimp only; omega, fun h j hj => ?_, fun h => ?_⟩ (by dsimp only; omega)
      · dsimp only at hj h
        rw [ht] at hj
        rcases List.mem_append.1 hj with hj | hj
        · exact h3 h j hj
        · rw [one_mem hj]; omega
      · obtain ⟨k, q1, q2, q3, q4, q5, q6⟩ := h4 h
        refine ⟨k, q1, by dsimp only; omega, q3, q4, fun j hj => ?_, q6⟩
        dsimp only at hj ⊢
        rw [ht] at hj
        rcases List.mem_append.1 hj with hj | hj
        · exact q5 j hj
        · rw [one_mem hj]; omega
  · rw [take_all (by omega)] at h3 h4
    refine WP.ret ⟨rfl, h3, fun h => ?_⟩
    obtain ⟨k, q1, q2, q3, q4, q5, q6⟩ := h4 h
    exact ⟨k, ⟨q1, by omega⟩, q3, q4, q5, q6⟩
/-- The way from x on, each time to the first function from which so many edges lead back. -/
def PathP (g : List (List Int)) (t : Int) : Nat → Int → List Int → Prop
  | 0, _, l => l = []
  | m + 1, x, l => ∃ k r, inN k (atD g x).length ∧ WalkN g t (m + 1) (atD (atD g x) k) ∧ (∀ k', 0 ≤ k' → k' < k → ¬ WalkN g t (m + 1) (atD (atD g x) k')) ∧ l = atD (atD g x) k :: r ∧ PathP g t m (atD (atD g x) k) r
theorem PathP.uniq {g : List (List Int)} {t : Int} : ∀ {m : Nat} {x : Int} {l l' : List Int}, PathP g t m x l → PathP g t m x l' → l = l'
  | 0, x, l, l', h, h' => by have h : l = [] := h; have h' : l' = [] := h'; rw [h, h']
  | m + 1, x, l, l', h, h' => by
    obtain ⟨k, r, h1, h2, h3, rfl, h5⟩ := h
    obtain ⟨k', r', h1', h2', h3', rfl, h5'⟩ := h'
    have : k = k' := by
      rcases Int.lt_trichotomy k k' with hlt | e | hlt
      · exact absurd h2 (h3' k h1.1 hlt)
      · exact e
      · exact absurd h2' (h3 k' h1'.1 hlt)
    subst this
    rw [h5.uniq h5']
/-- The first function on a cycle, the length of its shortest cycle. -/
structure FirstP (g : List (List Int)) (t : Int) (m : Nat) : Prop where
  rng : inN t g.length
  least : ∀ f, inN f g.length → f < t → ∀ n, ¬ WalkN g f (n + 1) f
  walk : WalkN g t (m + 1) t
  short : ∀ n, n < m → ¬ WalkN g t (n + 1) t
theorem FirstP.uniq {g : List (List Int)} {t t' : Int} {m m' : Nat} (h : FirstP g t m) (h' : FirstP g t' m') : t = t' ∧ m = m' := by
  have e : t = t' := by
    rcases Int.lt_trichotomy t t' with hlt | e | hlt
    · exact absurd h.walk (h'.least t h.rng hlt m)
    · exact e
    · exact absurd h'.walk (h.least t' h'.rng hlt m')
  subst e
  refine ⟨rfl, ?_⟩
  rcases Nat.lt_trichotomy m m' with hlt | e | hlt
  · exact absurd h.walk (h'.short m hlt)
  · exact e
  · exact absurd h'.walk (h.short m' hlt)
inductive FindP (g : List (List Int)) : List Int → Bool → Prop
  | none (h : ∀ f, inN f g.length → ∀ n, ¬ WalkN g f (n + 1) f) : FindP g [] false
  | some (t : Int) (m : Nat) (l : List Int) (h : FirstP g t m) (hp : PathP g t m t l) : FindP g (t :: l) true
theorem FindP.uniq {g : List (List Int)} {l l' : List Int} {b b' : Bool} (h : FindP g l b) (h' : FindP g l' b') : l = l' ∧ b = b' := by
  cases h with
  | none h1 =>
    cases h' with
    | none => exact ⟨rfl, rfl⟩
    | some t m l h2 => exact absurd h2.walk (h1 t h2.rng m)
  | some t m l h1 hp =>
    cases h' with
    | none h2 => exact absurd h1.walk (h2 t h1.rng m)
    | some t' m' l' h2 hp' =>
      obtain ⟨rfl, rfl⟩ := h1.uniq h2
      rw [hp.uniq hp']
      exact ⟨rfl, rfl⟩
/-! ### Reading distances -/
theorem IsDist.lt {g : List (List Int)} (hg : GrP g) {t : Int} {d : List Int} (h : IsDist g t d) {x : Int} (hx : inN x g.length) (hd : atD d x < 81) : ∃ m : Nat, atD d x = m ∧ m < g.length ∧ WalkN g t m x ∧ ∀ k, k < m → ¬ WalkN g t k x := by
  rcases h.val x hx with ⟨h1, _⟩ | h1
  · omega
  · exact h1
theorem IsDist.le {g : List (List Int)} (hg : GrP g) {t : Int} {d : List Int} (h : IsDist g t d) {x : Int} (hx : inN x g.length) {m : Nat} (hw : WalkN g t m x) : atD d x < 81 ∧ atD d x ≤ m ∧ 0 ≤ atD d x := by
  have := hg.len
  rcases h.val x hx with ⟨_, h1⟩ | ⟨k, h1, h2, h3, h4⟩
  · exact absurd hw (h1 m)
  · refine ⟨by omega, ?_, by omega⟩
    refine Classical.byContradiction fun hno => ?_
    exact h4 m (by omega) hw
theorem IsDist.nonneg {g : List (List Int)} {t : Int} {d : List Int} (h : IsDist g t d) {x : Int} (hx : inN x g.length) : 0 ≤ atD d x := by
  rcases h.val x hx with ⟨h1, _⟩ | ⟨k, h1, _⟩ <;> omega
/-- The closest function of a row is the first one with the shortest walk. -/
theorem ClP.first {g : List (List Int)} (hg : GrP g) {t x : Int} {d : List Int} (hd : IsDist g t d) (hx : inN x g.length) {best : Int} (h : ClP d (atD g x) best true) : ∃ (m : Nat) (k : Int), inN k (atD g x).length ∧ best = atD (atD g x) k ∧ atD d best = m ∧ m < g.length ∧ WalkN g t m best ∧ (∀ k', 0 ≤ k' → k' < k → ¬ WalkN g t m (atD (atD g x) k')) ∧ ∀ n, n < m → ¬ WalkN g t (n + 1) x := by
  obtain ⟨k, h1, rfl, h2, h3, h4⟩ := h.yes rfl
  have hb := hg.rng x hx _ (atD_mem h1)
  obtain ⟨m, q1, q2, q3, q4⟩ := hd.lt hg hb h2
  refine ⟨m, k, h1, rfl, q1, q2, q3, fun k' r1 r2 hw => ?_, fun n hn hw => ?_⟩
  · have := hd.le hg (hg.rng x hx _ (atD_mem (l := atD g x) (i := k') ⟨r1, by have := h1.2; omega⟩)) hw
    have := h4 k' r1 r2
    omega
  · obtain ⟨y, hy, hw⟩ := hw
    have := hd.le hg (hg.rng x hx y hy) hw
    have := h3 y hy
    omega
theorem ClP.none {g : List (List Int)} (hg : GrP g) {t x : Int} {d : List Int} (hd : IsDist g t d) (hx : inN x g.length) {best : Int} (h : ClP d (atD g x) best false) : ∀ n, ¬ WalkN g t (n + 1) x := fun n hw => by
  obtain ⟨y, hy, hw⟩ := hw
  exact h.no rfl y hy (hd.le hg (hg.rng x hx y hy) hw).1
theorem ClP.is_true {d s : List Int} {best : Int} {f : Bool} (h : ClP d s best f) {j : Int} (hj : j ∈ s) (hd : atD d j < 81) : f = true := by
  cases f with
  | true => rfl
  | false => exact absurd hd (h.no rfl j hj)
theorem find28_sp (g : List (List Int)) (hg : GrP g) : WP (cycle_Find g) fun r => FindP g r.1 r.2 := by
  have hlen := hg.len
  unfold cycle_Find
  refine WP.loop (fun x => 0 ≤ x ∧ x ≤ g.length ∧ ∀ f, inN f g.length → f < x → ∀ n, ¬ WalkN g f (n + 1) f) (fun x => g.length - x.toNat) ⟨Int.le_refl _, by omega, fun f hf h => by have := hf.1; omega⟩ ?_
  rintro again x ⟨h1, h2, h3⟩ ih
  refine WP.bif (fun wh => ?_) (fun wh => ?_) <;> (try simp only [wpH, ne_eq] at wh)
  · have hx : inN x g.length := ⟨h1, wh⟩
    refine WP.chk hx fun _ => ?_
    refine WP.call (distances_sp g hg x hx) fun d hd => ?_
    have hrow : ∀ y, inN y g.length → (atD g y).length ≤ 1000000 ∧ ∀ j ∈ atD g y, inN j d.length := fun y hy => ⟨by have := (hg.row y hy).length; omega, fun j hj => by rw [hd.len]; exact hg.rng y hy j hj⟩
    refine WP.call (closest_sp _ _ (hrow x hx).1 (hrow x hx).2) ?_
    rintro ⟨next, found, d'⟩ ⟨hd', hcl⟩
    dsimp only at hd' hcl ⊢
    subst hd'
    refine WP.bif (fun wh => ?_) (fun wh => ?_) <;> (try simp only [wpH, ne_eq] at wh)
    · subst wh
      refine WP.chk ⟨by omega, by omega⟩ fun _ => ?_
      refine ih _ ⟨by omega, by omega, fun f hf hlt => ?_⟩ (by omega)
      by_cases e : f = x
      · rw [e]; exact hcl.none hg hd hx
      · exact h3 f hf (by omega)
    · subst wh
      obtain ⟨m0, k0, a1, a2, a3, a4, a5, a6, a7⟩ := hcl.first hg hd hx
      have hF : FirstP g x m0 := ⟨hx, h3, ⟨next, by rw [a2]; exact atD_mem a1, a5⟩, a7⟩
      refine WP.loop (fun z => z.2.1 = d' ∧ ∃ (m : Nat) (y : Int) (pre : List Int), m + pre.length = m0 ∧ z.2.2 = x :: pre ∧ inN y g.length ∧ (∃ k, inN k (atD g y).length ∧ z.1 = atD (atD g y) k ∧ WalkN g x m z.1 ∧ (∀ k', 0 ≤ k' → k' < k → ¬ WalkN g x m (atD (atD g y) k'))) ∧ atD d' z.1 = m ∧ ∀ l, PathP g x m y l → PathP g x m0 x (pre ++ l)) (fun z => (atD d' z.1).toNat)
        ⟨rfl, m0, x, [], rfl, rfl, hx, ⟨k0, a1, a2, a5, a6⟩, a3, fun l hl => hl⟩ ?_
      rintro again2 ⟨next2, v, way⟩ ⟨hv, m, y, pre, b1, rfl, b2, ⟨k, b3, b4, b5, b6⟩, b7, b8⟩ ih2
      dsimp only at hv b1 b4 b5 b7 ih2 ⊢
      subst hv
      have hn2 : inN next2 g.length := by rw [b4]; exact hg.rng y b2 _ (atD_mem b3)
      refine WP.bif (fun wh => ?_) (fun wh => ?_) <;> (try simp only [wpH, ne_eq] at wh)
      · have hne := wh
        match m, b1, b5, b6, b7, b8 with
        | 0, _, b5, _, _, _ => exact absurd b5 hne
        | m + 1, b1, b5, b6, b7, b8 =>
        refine WP.chk (by simp only [List.length_cons, List.length_nil]; have := a4; omega) fun _ => WP.chk hn2 fun _ => ?_
        refine WP.call (closest_sp _ _ (hrow next2 hn2).1 (hrow next2 hn2).2) ?_
        rintro ⟨next3, found3, d3⟩ ⟨hd3, hcl3⟩
        dsimp only at hd3 hcl3 ⊢
        subst hd3
        obtain ⟨z, hz, hzw⟩ := b5
        have hzd := hd.le hg (hg.rng next2 hn2 z hz) hzw
        have hft := hcl3.is_true hz hzd.1
        subst hft
        obtain ⟨m3, k3, c1, c2, c3, c4, c5, c6, c7⟩ := hcl3.first hg hd hn2
        have hm3 : m3 = m := by
          have e1 : ¬ m < m3 := fun hlt => c7 m hlt ⟨z, hz, hzw⟩
          have e2 : ¬ m3 < m := fun hlt => by
            have := (hd.le hg hn2 (m := m3 + 1) ⟨next3, by rw [c2]; exact atD_mem c1, c5⟩).2.1
            omega
          omega
        subst hm3
        refine ih2 _ ⟨rfl, m3, next2, pre ++ [next2], by simp only [List.length_append, List.length_cons, List.length_nil]; omega, rfl, hn2, ⟨k3, c1, c2, c5, c6⟩, c3, fun l hl => ?_⟩ ?_
        · rw [List.append_assoc]
          refine b8 _ ⟨k, l, b3, by rw [← b4]; exact ⟨z, hz, hzw⟩, b6, by rw [← b4]; rfl, by rw [← b4]; exact hl⟩
        · dsimp only; rw [c3, b7]; omega
      · have hm0 : m = 0 := by
          have h0 : WalkN g x 0 next2 := wh
          have := (hd.le hg hn2 h0).2.1
          omega
        subst hm0
        refine WP.ret ?_
        have := b8 [] rfl
        rw [List.append_nil] at this
        exact .some x m0 pre hF this
  · exact WP.ret (.none fun f hf => h3 f hf (by have := hf.2; omega))
theorem back_sp (g : List (List Int)) (hg : GrP g) (i first n : Int) (hi : inN i g.length) (hn : 0 ≤ n ∧ n ≤ 1000) : WP (r28_back g i first n) fun r => (r = true ↔ WalkN g first n.toNat i) := by
  unfold r28_back
  refine WP.loop (fun z => 0 ≤ z.1 ∧ z.1 ≤ n ∧ z.2.length ≤ 512 ∧ (∀ y ∈ z.2, inN y g.length) ∧ ((∃ y ∈ z.2, WalkN g first z.1.toNat y) ↔ WalkN g first n.toNat i)) (fun z => z.1.toNat) ⟨hn.1, Int.le_refl _, by simp, fun y hy => by rw [one_mem hy]; exact hi, ⟨fun ⟨y, hy, h⟩ => by rw [one_mem hy] at h; exact h, fun h => ⟨i, List.mem_cons_self, h⟩⟩⟩ ?_
  rintro again ⟨n2, at1⟩ ⟨h1, h2, h3, h4, h5⟩ ih
  dsimp only at h1 h2 h3 h4 h5 ih ⊢
  refine WP.bif (fun wh => ?_) (fun wh => ?_) <;> (try simp only [wpH, ne_eq] at wh)
  · have hpos := wh
    have en : n2.toNat = (n2 - 1).toNat + 1 := by omega
    refine WP.loop (fun z => 0 ≤ z.2 ∧ z.2 ≤ at1.length ∧ IsS z.1 ∧ ∀ y, y ∈ z.1 ↔ ∃ x ∈ at1.take z.2.toNat, y ∈ atD g x) (fun z => at1.length - z.2.toNat) ⟨Int.le_refl _, by dsimp only; omega, IsS.nil, fun y => by simp⟩ ?_
    rintro again2 ⟨next, k⟩ ⟨g1, g2, g3, g4⟩ ih2
    dsimp only at g1 g2 g3 g4 ih2 ⊢
    have hnl := g3.length
    refine WP.bif (fun wh => ?_) (fun wh => ?_) <;> (try simp only [wpH, ne_eq] at wh)
    · have hk : inN k at1.length := ⟨g1, wh⟩
      have ht := take_atD hk
      have hx := h4 _ (atD_mem hk)
      have hr := hg.row _ hx
      have hrl := hr.length
      refine WP.chk hk fun _ => WP.chk hx fun _ => ?_
      refine WP.call (union_sp _ _ (by omega)) fun x1 hx1 => ?_
      refine WP.chk ⟨by omega, by omega⟩ fun _ => ?_
      refine ih2 _ ⟨by dsimp only; omega, by dsimp only; omega, by dsimp only; rw [hx1]; exact g3.union _, fun y => ?_⟩ (by dsimp only; omega)
      dsimp only
      rw [hx1, mem_unionS, g4, ht]
      constructor
      · rintro (⟨x, q1, q2⟩ | ⟨q1, _⟩)
        · exact ⟨x, List.mem_append_left _ q1, q2⟩
        · exact ⟨_, List.mem_append_right _ List.mem_cons_self, q1⟩
      · rintro ⟨x, q1, q2⟩
        rcases List.mem_append.1 q1 with q1 | q1
        · exact .inl ⟨x, q1, q2⟩
        · rw [one_mem q1] at q2
          exact .inr ⟨q2, hr.rng y q2⟩
    · rw [take_all (by omega)] at g4
      refine WP.chk ⟨by omega, by omega⟩ fun _ => ?_
      refine ih _ ⟨by dsimp only; omega, by dsimp only; omega, hnl, fun y hy => ?_, ?_⟩ (by dsimp only; omega)
      · obtain ⟨x, q1, q2⟩ := (g4 y).1 hy
        exact hg.rng x (h4 x q1) y q2
      · dsimp only
        rw [← h5, en]
        constructor
        · rintro ⟨y, hy, hw⟩
          obtain ⟨x, q1, q2⟩ := (g4 y).1 hy
          exact ⟨x, q1, y, q2, hw⟩
        · rintro ⟨x, q1, y, q2, hw⟩
          exact ⟨y, (g4 y).2 ⟨x, q1, q2⟩, hw⟩
  · refine WP.call (has_sp _ _ (by omega)) fun x2 hx2 => ?_
    refine WP.ret ?_
    have : n2.toNat = 0 := by omega
    rw [this] at h5
    rw [← h5, hx2, decide_eq_true_eq]
    exact ⟨fun h => ⟨first, h, rfl⟩, fun ⟨y, hy, h⟩ => by have h : y = first := h; rwa [h] at hy⟩
theorem find28r_sp (g : List (List Int)) (hg : GrP g) : WP (r28_Find g) fun r => FindP g r.1 r.2 := by
  have hlen := hg.len
  -- a closed walk is no longer than there are functions
  have short : ∀ x, inN x g.length → (∀ n, n < g.length → ¬ WalkN g x (n + 1) x) → ∀ n, ¬ WalkN g x (n + 1) x := fun x hx hno n hw => by
    obtain ⟨d, _, hd⟩ := distances_sp g hg x hx
    obtain ⟨y, hy, hw'⟩ := hw
    have hyn := hg.rng x hx y hy
    obtain ⟨m, q1, q2, q3, _⟩ := hd.lt hg hyn (hd.le hg hyn hw').1
    exact hno m q2 ⟨y, hy, q3⟩
  unfold r28_Find
  refine WP.loop (fun x => 0 ≤ x ∧ x ≤ g.length ∧ ∀ f, inN f g.length → f < x → ∀ n, ¬ WalkN g f (n + 1) f) (fun x => g.length - x.toNat) ⟨Int.le_refl _, by omega, fun f hf h => by have := hf.1; omega⟩ ?_
  rintro again x ⟨h1, h2, h3⟩ ih
  refine WP.bif (fun wh => ?_) (fun wh => ?_) <;> (try simp only [wpH, ne_eq] at wh)
  · have hx : inN x g.length := ⟨h1, wh⟩
    refine WP.loop (fun n => 1 ≤ n ∧ n ≤ g.length + 1 ∧ ∀ k : Nat, (k : Int) + 1 < n → ¬ WalkN g x (k + 1) x) (fun n => g.length + 1 - n.toNat) ⟨by omega, by omega, fun k hk => by omega⟩ ?_
    rintro again2 n ⟨g1, g2, g3⟩ ih2
    refine WP.bif (fun wh => ?_) (fun wh => ?_) <;> (try simp only [wpH, ne_eq] at wh)
    · have hnle := wh
      refine WP.call (back_sp g hg x x n hx (by omega)) fun x1 hx1 => ?_
      have en : n.toNat = (n - 1).toNat + 1 := by omega
      rw [en] at hx1
      refine WP.bif (fun wh => ?_) (fun wh => ?_) <;> (try simp only [wpH, ne_eq] at wh)
      · have hno : ¬ WalkN g x ((n - 1).toNat + 1) x := fun h => by rw [hx1.2 h] at wh; cases wh
        refine WP.chk ⟨by omega, by omega⟩ fun _ => ?_
        refine ih2 _ ⟨by omega, by omega, fun k hk => ?_⟩ (by omega)
        by_cases e : k = (n - 1).toNat
        · rw [e]; exact hno
        · exact g3 k (by omega)
      · have hw := hx1.1 wh
        have hF : FirstP g x (n - 1).toNat := ⟨hx, h3, hw, fun k hk => g3 k (by omega)⟩
        refine WP.chk ⟨by omega, by omega⟩ fun _ => ?_
        refine WP.loop (fun z => 0 ≤ z.1 ∧ z.1 ≤ n - 1 ∧ ∃ (pre : List Int) (y : Int), z.2 = x :: pre ∧ (x :: pre).getLast? = some y ∧ z.1.toNat + pre.length = (n - 1).toNat ∧ inN y g.length ∧ WalkN g x (z.1.toNat + 1) y ∧ ∀ l, PathP g x z.1.toNat y l → PathP g x (n - 1).toNat x (pre ++ l)) (fun z => z.1.toNat) ⟨by dsimp only; omega, Int.le_refl _, [], x, rfl, rfl, rfl, hx, hw, fun l hl => hl⟩ ?_
        rintro again3 ⟨left, out⟩ ⟨a1, a2, pre, y, rfl, a3, a4, a5, a6, a7⟩ ih3
        dsimp only at a1 a2 a4 a6 a7 ih3 ⊢
        have hlast : atD (x :: pre) ((((x :: pre).length : Nat) : Int) - 1) = y := by
          have e : ((((x :: pre).length : Nat) : Int) - 1) = ((pre.length : Nat) : Int) := by simp
          rw [e, atD_nat (by simp)]
          rw [List.getLast?_eq_getElem?] at a3
          have := List.getElem?_eq_some_iff.1 a3
          obtain ⟨q1, q2⟩ := this
          simpa using q2
        refine WP.bif (fun wh => ?_) (fun wh => ?_) <;> (try simp only [wpH, ne_eq] at wh)
        · have hpos := wh
          have el : left.toNat = (left - 1).toNat + 1 := by omega
          have hxl : (x :: pre).length = pre.length + 1 := rfl
          have hrl := (hg.row y a5).length
          rw [hlast]
          refine WP.chk ⟨by omega, by omega⟩ fun _ => WP.chk ⟨by omega, by omega⟩ fun _ => WP.chk a5 fun _ => ?_
          refine WP.loop (fun k => 0 ≤ k ∧ k ≤ (atD g y).length ∧ ∀ k', 0 ≤ k' → k' < k → ¬ WalkN g x left.toNat (atD (atD g y) k')) (fun k => (atD g y).length - k.toNat) ⟨Int.le_refl _, by omega, fun k' q1 q2 => by omega⟩ ?_
          rintro again4 k ⟨c1, c2, c3⟩ ih4
          refine WP.bif (fun wh => ?_) (fun wh => ?_) <;> (try simp only [wpH, ne_eq] at wh)
          · have hk : inN k (atD g y).length := ⟨c1, wh⟩
            have hkn := hg.rng y a5 _ (atD_mem hk)
            refine WP.chk hk fun _ => ?_
            refine WP.call (back_sp g hg _ x left hkn (by omega)) fun x2 hx2 => ?_
            refine WP.bif (fun wh => ?_) (fun wh => ?_)
            · have hwk := hx2.1 wh
              refine WP.chk hk fun _ => WP.chk (by simp only [List.length_cons, List.length_nil]; omega) fun _ => WP.chk ⟨by omega, by omega⟩ fun _ => ?_
              rw [el] at hwk c3 a7
              refine ih3 _ ⟨by dsimp only; omega, by dsimp only; omega, pre ++ [atD (atD g y) k], atD (atD g y) k, rfl, by rw [← List.cons_append, List.getLast?_append]; simp, by dsimp only; simp only [List.length_append, List.length_cons, List.length_nil]; omega, hkn, hwk, fun l hl => ?_⟩ (by dsimp only; omega)
              rw [List.append_assoc]
              exact a7 _ ⟨k, l, hk, hwk, c3, rfl, hl⟩
            · refine WP.chk ⟨by omega, by omega⟩ fun _ => ?_
              refine ih4 _ ⟨by omega, by omega, fun k' q1 q2 => ?_⟩ (by omega)
              by_cases e : k' = k
              · rw [e]; exact fun h => by rw [hx2.2 h] at wh; cases wh
              · exact c3 k' q1 (by omega)
          · exfalso
            rw [el] at a6
            obtain ⟨z, hz, hzw⟩ := a6
            obtain ⟨kk, q1, q2, q3⟩ := mem_atD hz
            refine c3 kk q1 (by omega) ?_
            rw [q3, el]; exact hzw
        · have e0 : left.toNat = 0 := by omega
          refine WP.ret ?_
          rw [e0] at a7
          have := a7 [] rfl
          rw [List.append_nil] at this
          exact .some x _ pre hF this
    · refine WP.chk ⟨by omega, by omega⟩ fun _ => ?_
      refine ih _ ⟨by omega, by omega, fun f hf hlt => ?_⟩ (by omega)
      by_cases e : f = x
      · rw [e]; exact short x hx fun n' hn' => g3 n' (by omega)
      · exact h3 f hf (by omega)
  · exact WP.ret (.none fun f hf => h3 f hf (by have := hf.2; omega))
/-! ### What is found is a cycle -/
theorem FindP.acyc {g : List (List Int)} (hg : GrP g) {l : List Int} {b : Bool} (h : FindP g l b) : b = false ↔ Acyc g := by
  cases h with
  | none h =>
    refine ⟨fun _ a ha c hc hw => ?_, fun _ => rfl⟩
    obtain ⟨m, hm⟩ := hw.walk
    exact h a ha m ⟨c, hc, hm⟩
  | some t m l h1 hp =>
    refine ⟨fun h => (by cases h), fun hac => ?_⟩
    obtain ⟨y, hy, hw⟩ := h1.walk
    exact absurd hw.way (hac t h1.rng y hy)
end Go.Proofs.YtmefipdgohflmaaDoor.Q
