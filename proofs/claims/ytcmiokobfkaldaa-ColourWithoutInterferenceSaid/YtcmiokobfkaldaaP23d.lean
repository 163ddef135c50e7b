/- Colours: what assigned offsets are; valid offsets; the laws. -/
import Derived.Test.YtcmiokobfkaldaaP23c
set_option linter.unusedVariables false
set_option linter.unusedSimpArgs false
namespace Go.Proofs.Ytcmiokobfkaldaa.Q
/-! ### What assigned offsets are -/
structure AInv (s : List ASlot) (g : List (List Int)) (k : Int) (off : List Int) (done : List Bool) (B : Int) : Prop where
  lo : off.length = s.length
  ld : done.length = s.length
  ok : ∀ x, inN x s.length → atD done x = true → k ≤ atD off x ∧ (atD s x).Align ∣ atD off x ∧ atD off x + (atD s x).Size ≤ B
  dis : ∀ x y, inN x s.length → inN y s.length → atD done x = true → atD done y = true → y ∈ atD g x → meetB (ivS s off x) (atD off y) (atD s y).Size = false
theorem meetB_symm (a b : AInterval) : meetB a b.Off b.Size = meetB b a.Off a.Size := by
  unfold meetB
  rw [Bool.eq_iff_iff, decide_eq_true_eq, decide_eq_true_eq]
  omega
theorem rightS.bd {x : ASlot} (h : rightS x) : 1 ≤ x.Size ∧ x.Size ≤ 16 ∧ 1 ≤ x.Align ∧ x.Align ≤ 64 ∧ powB x.Align = true := by
  have h1 := powB_small h.2
  obtain ⟨h2, h3⟩ := h
  exact ⟨by omega, by omega, by omega, by omega, h1⟩
theorem asg_ok {s : List ASlot} {g : List (List Int)} {k : Int} (hs : ∀ x ∈ s, rightS x) (hG : GraphB g s.length) (hk : 0 ≤ k) : ∀ {ord : List Int} {off : List Int} {done : List Bool} {B : Int} {r : List Int × Int}, AInv s g k off done B → k ≤ B →
    (∀ x ∈ ord, inN x s.length ∧ atD done x = false) → ord.Nodup → B + 100 * ord.length ≤ 2147483647 → AsgR s g k ord off done r →
    ∃ off' done', r = (off', 0) ∧ AInv s g k off' done' (B + 100 * ord.length) ∧ ∀ x, inN x s.length → (atD done x = true ∨ x ∈ ord) → atD done' x = true
  | [], off, done, B, r, hI, hkB, _, _, _, h => by
    refine ⟨off, done, h, by simpa using hI, fun x _ hx => hx.elim id fun h => by cases h⟩
  | x :: ord, off, done, B, r, hI, hkB, hord, hnd, hB, ⟨f, hf, hr⟩ => by
    obtain ⟨hx, hdx⟩ := hord x (List.mem_cons_self ..)
    have hsx := (hs _ (atD_mem hx)).bd
    simp only [List.length_cons] at hB ⊢
    have hused : ∀ a ∈ usedL s g off done x, 0 ≤ a.Off ∧ 1 ≤ a.Size ∧ a.Off + a.Size ≤ B := fun a ha => by
      obtain ⟨j, h1, h2, rfl⟩ := mem_usedL.1 ha
      have hj : inN j s.length := hG.rng x ⟨hx.1, by have := hx.2; have := hG.len; omega⟩ j h1
      have h3 := hI.ok j hj h2
      have h4 := (hs _ (atD_mem hj)).bd
      exact ⟨by show 0 ≤ atD off j; omega, h4.1, h3.2.2⟩
    have hbad : badArgs (usedL s g off done x) k (atD s x).Size (atD s x).Align = false := by
      unfold badArgs
      rw [(boundB_iff k).2 (by omega), (boundB_iff (atD s x).Size).2 (by omega), hsx.2.2.2.2]
      simp only [Bool.not_true, Bool.false_or]
      exact List.any_eq_false.2 fun a ha => by rw [(rightB_iff a).2 (by have := hused a ha; omega)]; simp
    obtain ⟨z, hz1, hz2, hz3⟩ := least_ex (l := usedL s g off done x) (k := k) (n := (atD s x).Size) hsx.2.2.1
    have hzB : z ≤ B + 64 := by
      rcases hz3 with h | ⟨a, ha, h⟩
      · have := upZ_lt (n := k) hsx.2.2.1; omega
      · have h1 := hused a ha
        have := upZ_lt (n := max k (a.Off + a.Size)) hsx.2.2.1; omega
    have hfz : f = (z, 0) := by
      rcases hf with ⟨q, _⟩ | ⟨_, ⟨y, q1, q2, q3, q4⟩ | ⟨q1, _⟩⟩
      · rw [hbad] at q; cases q
      · have := hz2 y q1; have := q3 z hz1
        rw [q4, show y = z by omega]
      · have := q1 z hz1; omega
    subst hfz
    rcases hr with ⟨q, _⟩ | ⟨_, hr⟩
    · exact absurd rfl q
    dsimp only at hr
    have hxo : 0 ≤ x ∧ x < (off.length : Int) := ⟨hx.1, by rw [hI.lo]; exact hx.2⟩
    have hxd : 0 ≤ x ∧ x < (done.length : Int) := ⟨hx.1, by rw [hI.ld]; exact hx.2⟩
    have hxg : inN x g.length := ⟨hx.1, by have := hx.2; have := hG.len; omega⟩
    have hI' : AInv s g k (setD off x z) (setD done x true) (B + 100) := by
      refine ⟨by rw [length_setD]; exact hI.lo, by rw [length_setD]; exact hI.ld, fun y hy hdy => ?_, fun y y' hy hy' hdy hdy' hm => ?_⟩
      · rw [atD_setD hxo hy.1]
        rw [atD_setD hxd hy.1] at hdy
        by_cases hyx : y = x
        · rw [if_pos hyx, hyx]
          exact ⟨hz1.ge, hz1.dvd, by omega⟩
        · rw [if_neg hyx] at hdy ⊢
          have := hI.ok y hy hdy
          exact ⟨this.1, this.2.1, by omega⟩
      · have hyg : inN y g.length := ⟨hy.1, by have := hy.2; have := hG.len; omega⟩
        unfold ivS
        rw [atD_setD hxo hy.1, atD_setD hxo hy'.1]
        rw [atD_setD hxd hy.1] at hdy
        rw [atD_setD hxd hy'.1] at hdy'
        by_cases hyx : y = x
        · have hne : ¬ y' = x := fun e => by
            rw [e, hyx] at hm
            exact hG.irr x hxg hm
          rw [if_neg hne] at hdy' ⊢
          rw [if_pos hyx]
          rw [hyx] at hm ⊢
          have h1 := hz1.out (ivS s off y') (mem_usedL.2 ⟨y', hm, hdy', rfl⟩)
          exact (meetB_symm ⟨z, (atD s x).Size⟩ (ivS s off y')).trans h1
        · rw [if_neg hyx] at hdy ⊢
          by_cases hy'x : y' = x
          · rw [if_pos hy'x]
            rw [hy'x] at hm ⊢
            have hm' := hG.sym y hyg x hm
            exact hz1.out (ivS s off y) (mem_usedL.2 ⟨y, hm', hdy, rfl⟩)
          · rw [if_neg hy'x] at hdy' ⊢
            exact hI.dis y y' hy hy' hdy hdy' hm
    have hnd' := List.nodup_cons.1 hnd
    obtain ⟨off', done', h1, h2, h3⟩ := asg_ok hs hG hk hI' (by omega) (fun y hy => by
      obtain ⟨h4, h5⟩ := hord y (List.mem_cons_of_mem _ hy)
      refine ⟨h4, ?_⟩
      rw [atD_setD hxd h4.1, if_neg (fun e : y = x => hnd'.1 (e ▸ hy))]; exact h5) hnd'.2 (by omega) hr
    refine ⟨off', done', h1, ?_, fun y hy hyo => h3 y hy ?_⟩
    · rw [show B + 100 * ((ord.length + 1 : Nat) : Int) = B + 100 + 100 * (ord.length : Int) by omega]; exact h2
    · rw [atD_setD hxd hy.1]
      by_cases hyx : y = x
      · exact .inl (if_pos hyx)
      · rw [if_neg hyx]
        exact hyo.imp id fun h => (List.mem_cons.1 h).resolve_left hyx
theorem rngL_nodup (n : Nat) : (rngL n).Nodup := by
  unfold rngL
  refine List.Pairwise.map _ (fun a b h => ?_) List.nodup_range
  omega
/-- Assign, where all is right and small. -/
theorem assign_ok {s : List ASlot} {g : List (List Int)} {k : Int} {r : List Int × Int} (hs : ∀ x ∈ s, rightS x) (hl : s.length ≤ 19) (hG : GraphB g s.length) (hk : 0 ≤ k ∧ k ≤ 1000000) (h : AssignP s g k r) :
    r.2 = 0 ∧ r.1.length = s.length ∧ (∀ x, inN x s.length → k ≤ atD r.1 x ∧ (atD s x).Align ∣ atD r.1 x ∧ atD r.1 x + (atD s x).Size ≤ 1002000) ∧ ∀ x y, inN x s.length → inN y s.length → y ∈ atD g x → meetB (ivS s r.1 x) (atD r.1 y) (atD s y).Size = false := by
  rcases h with ⟨h1, _⟩ | ⟨_, ⟨h1, _⟩ | ⟨_, ord, h2, h3⟩⟩
  · exact absurd (slotsE_right (by omega) hs) h1
  · exact absurd ⟨hG, hk.1, by omega⟩ h1
  have hlen := h2.length
  have hrepB : ∀ x, atD (repD (s.length : Int) : List Bool) x = false := fun x => by
    unfold atD repD
    rw [List.getD_eq_getElem?_getD, List.getElem?_replicate]
    split <;> rfl
  obtain ⟨off', done', h4, h5, h6⟩ := asg_ok hs hG hk.1 (B := k) ⟨by simp [length_repD], by simp [length_repD], fun x _ hx => (by rw [hrepB] at hx; cases hx), fun x y _ _ hx => (by rw [hrepB] at hx; cases hx)⟩ (Int.le_refl _) (fun x hx => ⟨(h2.mem).1 hx, hrepB x⟩) (h2.perm.nodup_iff.2 (rngL_nodup _)) (by omega) h3
  have hall : ∀ x, inN x s.length → atD done' x = true := fun x hx => h6 x hx (.inr ((h2.mem).2 hx))
  rw [h4]
  exact ⟨rfl, h5.lo, fun x hx => by have := h5.ok x hx (hall x hx); exact ⟨this.1, this.2.1, by dsimp only; omega⟩, fun x y hx hy hm => h5.dis x y hx hy (hall x hx) (hall y hy) hm⟩
/-! ### Valid offsets -/
structure ValidB (s : List ASlot) (g : List (List Int)) (off : List Int) (k : Int) : Prop where
  slots : slotsE s = 0
  len : (off.length : Int) = s.length
  ok : ∀ x, inN x s.length → (atD s x).Align ∣ atD off x ∧ k ≤ atD off x ∧ rightB (ivS s off x) = true
  dis : ∀ x y, inN x s.length → inN y s.length → x ≠ y → x < g.length → y ∈ atD g x → meetB (ivS s off x) (atD off y) (atD s y).Size = false
theorem inside23_sp (a : AInterval) : WP (extent_Inside a 2147483647) (· = rightB a) := by
  unfold extent_Inside
  refine WP.call (eright_sp a) ?_
  rintro _ rfl
  refine WP.bif (fun w => ?_) (fun w => WP.ret w.symm)
  have := (rightB_iff a).1 w
  exact WP.chk ⟨by omega, by omega⟩ fun _ => WP.ret (by rw [w, decide_eq_true_eq]; omega)
theorem valid1_sp (i j : Int) (g : List (List Int)) (hi : 0 ≤ i) (hr : ∀ r ∈ g, r.length ≤ 9223372036854775807) : WP (colour_Valid_1 i j g) (· = (decide (i < g.length ∧ j ∈ atD g i), g)) := by
  unfold colour_Valid_1
  refine WP.bif (fun w => ?_) (fun w => ?_)
  · have w' : i < g.length := by simpa using w
    refine WP.chk ⟨hi, w'⟩ fun _ => ?_
    refine WP.call (contains_sp _ _ (hr _ (atD_mem ⟨hi, w'⟩))) ?_
    rintro _ rfl
    exact WP.ret (by simp [w'])
  · have w' : ¬ i < g.length := by simpa using w
    exact WP.ret (by simp [w'])
theorem slot_al {s : List ASlot} (h : slotsE s = 0) {x : Int} (hx : inN x s.length) : 1 ≤ (atD s x).Align := by
  unfold slotsE at h
  split at h
  · cases h
  · split at h
    · rename_i ha
      have := List.all_eq_true.1 ha _ (atD_mem hx)
      unfold slotB at this
      rw [Bool.and_eq_true] at this
      exact (powB_bd this.2).1
    · cases h
theorem evalid_sp (s : List ASlot) (g : List (List Int)) (off : List Int) (k : Int) (hl : s.length ≤ 100) (hg : g.length ≤ 9223372036854775807) (hr : ∀ r ∈ g, r.length ≤ 9223372036854775807) : WP (colour_Valid s g off k) (· = true ↔ ValidB s g off k) := by
  unfold colour_Valid
  refine WP.call (eslots_sp s (by omega)) ?_
  rintro _ rfl
  refine WP.bif (fun w => WP.ret ⟨fun h => (by cases h), fun h => by rw [h.slots] at w; simp at w⟩) (fun w => ?_)
  have hs0 : slotsE s = 0 := by simpa using w
  refine WP.bif (fun w => WP.ret ⟨fun h => (by cases h), fun h => by rw [h.len] at w; simp at w⟩) (fun w => ?_)
  have hlen : (off.length : Int) = s.length := by simpa using w
  refine WP.loop (fun j => 0 ≤ j ∧ j ≤ s.length ∧ ∀ x, inN x s.length → x < j → (atD s x).Align ∣ atD off x ∧ k ≤ atD off x ∧ rightB (ivS s off x) = true) (fun j => s.length - j.toNat) ⟨by omega, by omega, fun t ht h => by have := ht.1; omega⟩ ?_
  rintro again x ⟨a1, a2, a3⟩ ih
  refine WP.bif (fun wh => ?_) (fun wh => ?_) <;> (try simp only [wpH, ne_eq] at wh)
  · have hx : inN x s.length := ⟨a1, wh⟩
    have hal := slot_al hs0 hx
    refine WP.chk hx fun _ => WP.chk ⟨a1, by omega⟩ fun _ => WP.chk (by omega) fun _ => ?_
    refine WP.bif (fun wm => ?_) (fun wm => ?_)
    · refine WP.ret ⟨fun h => (by cases h), fun h => ?_⟩
      have := Int.tmod_eq_zero_of_dvd (h.ok x hx).1
      rw [this] at wm; simp at wm
    have hdv : (atD s x).Align ∣ atD off x := Int.dvd_of_tmod_eq_zero (by simpa using wm)
    refine WP.chk ⟨a1, by omega⟩ fun _ => ?_
    refine WP.bif (fun wk => ?_) (fun wk => ?_)
    · refine WP.ret ⟨fun h => (by cases h), fun h => ?_⟩
      have := (h.ok x hx).2.1
      have wk' : atD off x < k := by simpa using wk
      omega
    have hko : k ≤ atD off x := by simpa using wk
    refine WP.call (interval_sp s off x ⟨a1, by omega⟩ hx) ?_
    rintro _ rfl
    refine WP.call (inside23_sp _) ?_
    rintro _ rfl
    refine WP.bif (fun wr => ?_) (fun wr => ?_)
    · refine WP.ret ⟨fun h => (by cases h), fun h => ?_⟩
      rw [(h.ok x hx).2.2] at wr; cases wr
    refine WP.chk ⟨by omega, by omega⟩ fun _ => ?_
    refine ih _ ⟨by omega, by omega, fun t h1 h2 => ?_⟩ (by omega)
    by_cases ht : t = x
    · subst ht; exact ⟨hdv, hko, by simpa using wr⟩
    · exact a3 t h1 (by omega)
  have hall : ∀ x, inN x s.length → (atD s x).Align ∣ atD off x ∧ k ≤ atD off x ∧ rightB (ivS s off x) = true := fun x hx => a3 x hx (by have := hx.2; omega)
  clear a1 a2 a3 wh ih again
  refine WP.loop (fun j => j.2 = g ∧ 0 ≤ j.1 ∧ j.1 ≤ s.length ∧ ∀ x y, inN x s.length → x < j.1 → 0 ≤ y → y < x → ((x < g.length ∧ y ∈ atD g x) ∨ (y < g.length ∧ x ∈ atD g y)) → meetB (ivS s off x) (atD off y) (atD s y).Size = false) (fun j => s.length - j.1.toNat) ⟨rfl, by dsimp only; omega, by dsimp only; omega, fun t y ht h => by have := ht.1; dsimp only at h; omega⟩ ?_
  rintro again ⟨x, v⟩ ⟨a0, a1, a2, a3⟩ ih
  dsimp only at a0 a1 a2 a3 ⊢
  subst a0
  refine WP.bif (fun wh => ?_) (fun wh => ?_) <;> (try simp only [wpH, ne_eq] at wh)
  · have hx : inN x s.length := ⟨a1, wh⟩
    refine WP.loop (fun j => j.2 = v ∧ 0 ≤ j.1 ∧ j.1 ≤ x ∧ ∀ y, 0 ≤ y → y < j.1 → ((x < v.length ∧ y ∈ atD v x) ∨ (y < v.length ∧ x ∈ atD v y)) → meetB (ivS s off x) (atD off y) (atD s y).Size = false) (fun j => (x - j.1).toNat) ⟨rfl, by dsimp only; omega, a1, fun t ht h => by dsimp only at h; omega⟩ ?_
    rintro again2 ⟨y, v2⟩ ⟨b0, b1, b2, b3⟩ ih2
    dsimp only at b0 b1 b2 b3 ⊢
    subst b0
    refine WP.bif (fun wy => ?_) (fun wy => ?_)
    · have wy' : y < x := by simpa using wy
      have hy : inN y s.length := ⟨b1, by omega⟩
      have step : (((x < v2.length ∧ y ∈ atD v2 x) ∨ (y < v2.length ∧ x ∈ atD v2 y)) → meetB (ivS s off x) (atD off y) (atD s y).Size = false) → WP (M.chk (okI (y + 1)) <| again2 ((y + 1), v2)) (· = true ↔ ValidB s v2 off k) := fun hno => by
        refine WP.chk ⟨by omega, by omega⟩ fun _ => ?_
        refine ih2 _ ⟨rfl, by dsimp only; omega, by dsimp only; omega, fun t h1 h2 h3 => ?_⟩ (by dsimp only; omega)
        dsimp only at h2
        by_cases ht : t = y
        · subst ht; exact hno h3
        · exact b3 t h1 (by omega) h3
      have test : ((x < v2.length ∧ y ∈ atD v2 x) ∨ (y < v2.length ∧ x ∈ atD v2 y)) → WP (M.call (colour_interval s off x) fun x8 => M.call (colour_interval s off y) fun x9 => M.call (extent_Overlap x8 x9) fun x10 => M.bif x10 (M.ret false) (M.chk (okI (y + 1)) <| again2 ((y + 1), v2))) (· = true ↔ ValidB s v2 off k) := fun hm => by
        refine WP.call (interval_sp s off x ⟨a1, by omega⟩ hx) ?_
        rintro _ rfl
        refine WP.call (interval_sp s off y ⟨b1, by omega⟩ hy) ?_
        rintro _ rfl
        refine WP.call (eoverlap_sp' _ _ (hall x hx).2.2 (hall y hy).2.2) ?_
        rintro _ rfl
        refine WP.bif (fun wo => ?_) (fun wo => step fun _ => wo)
        refine WP.ret ⟨fun h => (by cases h), fun h => ?_⟩
        rcases hm with ⟨h1, h2⟩ | ⟨h1, h2⟩
        · have := h.dis x y hx hy (by omega) h1 h2
          rw [show meetB (ivS s off x) (ivS s off y).Off (ivS s off y).Size = false from this] at wo; cases wo
        · have := h.dis y x hy hx (by omega) h1 h2
          rw [meetB_symm, show meetB (ivS s off y) (ivS s off x).Off (ivS s off x).Size = false from this] at wo; cases wo
      refine WP.call (valid1_sp x y v2 a1 hr) ?_
      rintro _ rfl
      dsimp only
      refine WP.bif (fun wa => test (.inl (by simpa using wa))) (fun wa => ?_)
      refine WP.call (valid1_sp y x v2 b1 hr) ?_
      rintro _ rfl
      dsimp only
      refine WP.bif (fun wb => test (.inr (by simpa using wb))) (fun wb => step fun h => ?_)
      rcases h with h | h
      · rw [decide_eq_true h] at wa; cases wa
      · rw [decide_eq_true h] at wb; cases wb
    · have wy' : ¬ y < x := by simpa using wy
      refine WP.chk ⟨by omega, by omega⟩ fun _ => ?_
      refine ih _ ⟨rfl, by dsimp only; omega, by dsimp only; omega, fun t y' h1 h2 h3 h4 h5 => ?_⟩ (by dsimp only; omega)
      dsimp only at h2
      by_cases ht : t = x
      · subst ht; exact b3 y' h3 (by omega) h5
      · exact a3 t y' h1 (by omega) h3 h4 h5
  · refine WP.ret ⟨fun _ => ⟨hs0, hlen, hall, fun x' y hx hy hne hxg hm => ?_⟩, fun _ => rfl⟩
    have h1 := hx.1; have h2 := hx.2; have h3 := hy.1; have h4 := hy.2
    by_cases hlt : y < x'
    · exact a3 x' y hx (by omega) h3 hlt (.inl ⟨hxg, hm⟩)
    · have := a3 y x' hy (by omega) h1 (by omega) (.inr ⟨hxg, hm⟩)
      have h5 := meetB_symm (ivS s off y) (ivS s off x')
      exact h5.symm.trans this
theorem rvalid_sp (s : List ASlot) (g : List (List Int)) (off : List Int) (k : Int) (hl : s.length ≤ 100) (hg : g.length ≤ 9223372036854775807) (hr : ∀ r ∈ g, r.length ≤ 9223372036854775807) : WP (r23_Valid s g off k) (· = true ↔ ValidB s g off k) := by
  unfold r23_Valid
  refine WP.call (slots3_sp s (by omega)) ?_
  rintro _ rfl
  refine WP.bif (fun w => WP.ret ⟨fun h => (by cases h), fun h => by rw [h.slots] at w; simp at w⟩) (fun w => ?_)
  have hs0 : slotsE s = 0 := by simpa using w
  refine WP.bif (fun w => WP.ret ⟨fun h => (by cases h), fun h => by rw [h.len] at w; simp at w⟩) (fun w => ?_)
  have hlen : (off.length : Int) = s.length := by simpa using w
  refine WP.loop (fun j => 0 ≤ j ∧ j ≤ s.length ∧ ∀ x, inN x s.length → x < j → (atD s x).Align ∣ atD off x ∧ k ≤ atD off x ∧ rightB (ivS s off x) = true) (fun j => s.length - j.toNat) ⟨by omega, by omega, fun t ht h => by have := ht.1; omega⟩ ?_
  rintro again x ⟨a1, a2, a3⟩ ih
  refine WP.bif (fun wh => ?_) (fun wh => ?_) <;> (try simp only [wpH, ne_eq] at wh)
  · have hx : inN x s.length := ⟨a1, wh⟩
    have hal := slot_al hs0 hx
    refine WP.chk ⟨a1, by omega⟩ fun _ => WP.chk hx fun _ => ?_
    refine WP.call (rright_sp' _) ?_
    rintro _ rfl
    refine WP.bif (fun wr => ?_) (fun wr => ?_)
    · refine WP.ret ⟨fun h => (by cases h), fun h => ?_⟩
      rw [show rightB ⟨atD off x, (atD s x).Size⟩ = true from (h.ok x hx).2.2] at wr; cases wr
    have hri : rightB (ivS s off x) = true := by show rightB ⟨atD off x, (atD s x).Size⟩ = true; simpa using wr
    have h0 : 0 ≤ atD off x := ((rightB_iff _).1 hri).1
    refine WP.chk ⟨a1, by omega⟩ fun _ => WP.chk hx fun _ => WP.chk ⟨h0, by omega⟩ fun _ => ?_
    refine WP.bif (fun wm => ?_) (fun wm => ?_)
    · refine WP.ret ⟨fun h => (by cases h), fun h => ?_⟩
      have := Int.emod_eq_zero_of_dvd (h.ok x hx).1
      rw [this] at wm; simp at wm
    have hdv : (atD s x).Align ∣ atD off x := Int.dvd_of_emod_eq_zero (by simpa using wm)
    refine WP.chk ⟨a1, by omega⟩ fun _ => ?_
    refine WP.bif (fun wk => ?_) (fun wk => ?_)
    · refine WP.ret ⟨fun h => (by cases h), fun h => ?_⟩
      have := (h.ok x hx).2.1
      have wk' : atD off x < k := by simpa using wk
      omega
    have hko : k ≤ atD off x := by simpa using wk
    refine WP.chk ⟨by omega, by omega⟩ fun _ => ?_
    refine ih _ ⟨by omega, by omega, fun t h1 h2 => ?_⟩ (by omega)
    by_cases ht : t = x
    · subst ht; exact ⟨hdv, hko, hri⟩
    · exact a3 t h1 (by omega)
  have hall : ∀ x, inN x s.length → (atD s x).Align ∣ atD off x ∧ k ≤ atD off x ∧ rightB (ivS s off x) = true := fun x hx => a3 x hx (by have := hx.2; omega)
  clear a1 a2 a3 wh ih again
  refine WP.loop (fun j => 0 ≤ j ∧ j ≤ s.length ∧ ∀ x y, inN x s.length → x < j → inN y s.length → x ≠ y → x < g.length → y ∈ atD g x → meetB (ivS s off x) (atD off y) (atD s y).Size = false) (fun j => s.length - j.toNat) ⟨by omega, by omega, fun t y ht h => by have := ht.1; omega⟩ ?_
  rintro again x ⟨a1, a2, a3⟩ ih
  refine WP.bif (fun wh => ?_) (fun wh => ?_) <;> (try simp only [wpH, ne_eq] at wh)
  · have hx : inN x s.length := ⟨a1, wh⟩
    refine WP.bif (fun wg => ?_) (fun wg => ?_)
    · have wg' : x < g.length := by simpa using wg
      refine WP.loop (fun j => 0 ≤ j ∧ j ≤ s.length ∧ ∀ y, inN y s.length → y < j → x ≠ y → y ∈ atD g x → meetB (ivS s off x) (atD off y) (atD s y).Size = false) (fun j => s.length - j.toNat) ⟨by omega, by omega, fun t ht h => by have := ht.1; omega⟩ ?_
      rintro again2 y ⟨b1, b2, b3⟩ ih2
      refine WP.bif (fun wy => ?_) (fun wy => ?_)
      · have wy' : y < s.length := by simpa using wy
        have hy : inN y s.length := ⟨b1, wy'⟩
        have step : (x ≠ y → y ∈ atD g x → meetB (ivS s off x) (atD off y) (atD s y).Size = false) → WP (M.chk (okI (y + 1)) <| again2 (y + 1)) (· = true ↔ ValidB s g off k) := fun hno => by
          refine WP.chk ⟨by omega, by omega⟩ fun _ => ?_
          refine ih2 _ ⟨by omega, by omega, fun t h1 h2 h3 h4 => ?_⟩ (by omega)
          by_cases ht : t = y
          · subst ht; exact hno h3 h4
          · exact b3 t h1 (by omega) h3 h4
        refine WP.bif (fun wn => ?_) (fun wn => step fun h => absurd (by simpa using wn : y = x).symm h)
        have hne : ¬ y = x := by simpa using wn
        refine WP.chk ⟨a1, wg'⟩ fun _ => ?_
        refine WP.call (has_sp' _ _ (hr _ (atD_mem ⟨a1, wg'⟩))) ?_
        rintro _ rfl
        refine WP.bif (fun wm => ?_) (fun wm => step fun _ h => by rw [decide_eq_true h] at wm; cases wm)
        have hm : y ∈ atD g x := by simpa using wm
        refine WP.chk ⟨a1, by omega⟩ fun _ => WP.chk hx fun _ => WP.chk ⟨b1, by omega⟩ fun _ => WP.chk hy fun _ => ?_
        refine WP.call (overlap_sp' (ivS s off x) (ivS s off y) (hall x hx).2.2 (hall y hy).2.2) ?_
        rintro _ rfl
        refine WP.bif (fun wo => ?_) (fun wo => step fun _ _ => wo)
        refine WP.ret ⟨fun h => (by cases h), fun h => ?_⟩
        have := h.dis x y hx hy (Ne.symm hne) wg' hm
        rw [show meetB (ivS s off x) (ivS s off y).Off (ivS s off y).Size = false from this] at wo; cases wo
      · have wy' : ¬ y < s.length := by simpa using wy
        refine WP.chk ⟨by omega, by omega⟩ fun _ => ?_
        refine ih _ ⟨by omega, by omega, fun t y' h1 h2 h3 h4 h5 h6 => ?_⟩ (by omega)
        by_cases ht : t = x
        · subst ht; exact b3 y' h3 (by have := h3.2; omega) h4 h6
        · exact a3 t y' h1 (by omega) h3 h4 h5 h6
    · have wg' : ¬ x < g.length := by simpa using wg
      exact WP.ret ⟨fun _ => ⟨hs0, hlen, hall, fun x' y hx' hy hne hxg hm => a3 x' y hx' (by omega) hy hne hxg hm⟩, fun _ => rfl⟩
  · exact WP.ret ⟨fun _ => ⟨hs0, hlen, hall, fun x' y hx' hy hne hxg hm => a3 x' y hx' (by have := hx'.2; omega) hy hne hxg hm⟩, fun _ => rfl⟩
/-! ### The laws -/
theorem memAtG {α : Type} [Inhabited α] {l : List α} {v : α} (h : v ∈ l) : ∃ t, inN t l.length ∧ atD l t = v := by
  obtain ⟨t, ht, rfl⟩ := List.mem_iff_getElem.1 h
  exact ⟨t, ⟨by omega, by omega⟩, atD_nat ht⟩
theorem GraphB.rows {g : List (List Int)} {n : Int} (h : GraphB g n) : ∀ r ∈ g, r.length ≤ 9223372036854775807 := fun r hr => by
  obtain ⟨t, ht, rfl⟩ := memAtG hr
  have := (h.asc t ht).length
  omega
theorem AsgR.len {s : List ASlot} {g : List (List Int)} {k : Int} : ∀ {ord : List Int} {off : List Int} {done : List Bool} {r : List Int × Int}, AsgR s g k ord off done r → r.1.length ≤ off.length
  | [], off, done, r, h => by rw [show r = _ from h]; exact Nat.le_refl _
  | x :: ord, off, done, r, ⟨f, _, h⟩ => by
    rcases h with ⟨_, rfl⟩ | ⟨_, h⟩
    · simp
    · have := h.len; rw [length_setD] at this; exact this
theorem AssignP.len {s : List ASlot} {g : List (List Int)} {k : Int} {r : List Int × Int} (h : AssignP s g k r) : r.1.length ≤ s.length := by
  rcases h with ⟨_, rfl⟩ | ⟨_, ⟨_, rfl⟩ | ⟨_, o, _, h⟩⟩
  · simp
  · simp
  · have := h.len; rw [length_repD] at this; omega
def endS (s : List ASlot) (off : List Int) : Nat → Int
  | 0 => 0
  | n + 1 => max (endS s off n) (atD off n + (atD s n).Size)
theorem endS_ge {s : List ASlot} {off : List Int} : ∀ {n x : Nat}, x < n → atD off x + (atD s x).Size ≤ endS s off n
  | n + 1, x, h => by
    unfold endS
    by_cases hx : x = n
    · subst hx; omega
    · have := endS_ge (s := s) (off := off) (n := n) (x := x) (by omega); omega
theorem end_sp (s : List ASlot) (off : List Int) (hl : s.length ≤ 1000000) (ho : off.length = s.length) (hb : ∀ x, inN x s.length → 0 ≤ atD off x + (atD s x).Size ∧ atD off x + (atD s x).Size ≤ 4000000000) : WP (colour_End s off) (· = endS s off s.length) := by
  unfold colour_End
  refine WP.loop (fun j => 0 ≤ j.2 ∧ j.2 ≤ s.length ∧ j.1 = endS s off j.2.toNat) (fun j => s.length - j.2.toNat) ⟨by simp, by simp, rfl⟩ ?_
  rintro again ⟨e, x⟩ ⟨a1, a2, a3⟩ ih
  dsimp only at a1 a2 a3 ⊢
  subst a3
  refine WP.bif (fun wh => ?_) (fun wh => ?_) <;> (try simp only [wpH, ne_eq] at wh)
  · have := hb x ⟨a1, wh⟩
    refine WP.chk ⟨a1, by omega⟩ fun _ => WP.chk ⟨a1, wh⟩ fun _ => WP.chk ⟨by omega, by omega⟩ fun _ => WP.chk ⟨by omega, by omega⟩ fun _ => ?_
    refine ih _ ⟨by dsimp only; omega, by dsimp only; omega, ?_⟩ (by dsimp only; omega)
    dsimp only
    rw [show (x + 1).toNat = x.toNat + 1 by omega, endS, show ((x.toNat : Nat) : Int) = x by omega]
  · exact WP.ret (by rw [show x.toNat = s.length by omega])
theorem int23_sp (c : DCodes) (hc : okC c) : WP (draw_Int c) fun r => okC r.2 := by
  unfold draw_Int
  refine WP.call (next_sp c 12 hc (by omega)) fun x1 ⟨h1, h2, h3, _⟩ => ?_
  have h3' := h3 (by omega)
  refine WP.bif (fun _ => ?_) (fun _ => ?_)
  · refine WP.call (next_sp x1.2 _ h1 (by simp)) fun x2 ⟨h4, h5, h6, _⟩ => ?_
    refine WP.chk ⟨h5, h6 (by simp)⟩ fun _ => WP.ret h4
  · refine WP.call (next_sp x1.2 256 h1 (by omega)) fun x3 ⟨h4, h5, h6, _⟩ => ?_
    refine WP.call (next_sp x3.2 7 h4 (by omega)) fun x4 ⟨h7, h8, h9, _⟩ => ?_
    have h6' := h6 (by omega)
    have h9' := h9 (by omega)
    refine WP.chk ⟨h8, by omega⟩ fun _ => WP.chk ⟨h2, by omega, by omega⟩ fun _ => ?_
    have hd : 0 ≤ x3.1 / 2 ^ x4.1.toNat ∧ x3.1 / 2 ^ x4.1.toNat ≤ x3.1 := by
      have hp : (0 : Int) < 2 ^ x4.1.toNat := Int.pow_pos (by omega)
      exact ⟨Int.ediv_nonneg h5 (by omega), Int.ediv_le_self _ h5⟩
    refine WP.chk ⟨by omega, by omega⟩ fun _ => WP.ret h7
theorem same_refl {a : List Int} (hl : a.length ≤ 1000000000) {β : Type} {Q : β → Prop} {m1 m2 : M β} (h : WP m2 Q) : WP (M.call (r04_Same a a) fun x => M.bif (!x) m1 m2) Q := by
  refine WP.call (same_sp a a hl) ?_
  rintro _ rfl
  refine WP.bif (fun w => by simp at w) fun _ => h
theorem pl_ColourAssign (codes : List Int) (raw : List (List Int)) (k : Int) (h : ∀ z ∈ codes, 0 ≤ z ∧ z ≤ 255) (hraw : ∀ r ∈ raw, r.length ≤ 9223372036854775807) (_hk : -9223372036854775808 ≤ k ∧ k ≤ 9223372036854775807) : WP (law23_ColourAssign codes raw k) (· = true) := by
  unfold law23_ColourAssign
  refine WP.call awake23_sp ?_
  rintro _ rfl
  refine WP.bif (fun w => by cases w) (fun _ => ?_)
  refine WP.bif (fun w => WP.ret w) (fun w100 => ?_)
  have hrl : raw.length ≤ 100 := by simp at w100; omega
  refine WP.call (scene23_sp codes h) fun x2 ⟨hs, hl, hG, hc⟩ => ?_
  refine WP.chk (by omega) fun _ => ?_
  refine WP.call (int23_sp _ hc) fun x3 hc3 => ?_
  refine WP.call (int23_sp _ hc3) fun x4 hc4 => ?_
  refine WP.chk (by simp only [List.length_cons, List.length_nil]; omega) fun _ => ?_
  refine WP.call (next_sp x4.2 100 hc4 (by omega)) fun x5 ⟨g1, g2, g3, _⟩ => ?_
  refine WP.call (next_sp x5.2 200 g1 (by omega)) fun x6 ⟨g4, g5, g6, _⟩ => ?_
  have g6' := g6 (by omega)
  refine WP.chk ⟨by omega, by omega⟩ fun _ => ?_
  have hgl := hG.len
  have hodd : (x2.1 ++ [(⟨x3.1, x4.1⟩ : ASlot)]).length ≤ 19 := by simp only [List.length_append, List.length_cons, List.length_nil]; omega
  have hrows : ∀ r ∈ x2.2.1 ++ [([] : List Int)], r.length ≤ 9223372036854775807 := fun r hr => by
    rcases List.mem_append.1 hr with hr | hr
    · exact hG.rows r hr
    · rw [List.mem_singleton] at hr; subst hr; simp
  have hgl2 : (x2.2.1 ++ [([] : List Int)]).length ≤ 9223372036854775807 := by simp only [List.length_append, List.length_cons, List.length_nil]; omega
  generalize x2.1 ++ [(⟨x3.1, x4.1⟩ : ASlot)] = odd at *
  have hL : ([k, x5.1, (2147483647 : Int) - x6.1] : List Int).length = 3 := rfl
  generalize ([k, x5.1, (2147483647 : Int) - x6.1] : List Int) = L at *
  refine WP.loop (fun j => j.1 = odd ∧ 0 ≤ j.2 ∧ j.2 ≤ 3) (fun j => (3 - j.2).toNat) ⟨rfl, by simp, by simp⟩ ?_
  rintro again ⟨o, i⟩ ⟨a0, a1, a2⟩ ih
  dsimp only at a0 a1 a2 ⊢
  subst a0
  refine WP.bif (fun wh => ?_) (fun _ => WP.ret rfl)
  have hi : i < L.length := by simpa using wh
  refine WP.chk ⟨a1, hi⟩ fun _ => ?_
  generalize atD L i = q
  refine WP.call (easg_sp x2.1 x2.2.1 q (by omega) (by omega) hG.rows) fun r1 h1 => ?_
  refine WP.call (rasg_sp x2.1 x2.2.1 q (by omega) (by omega) hG.rows) fun r2 h2 => ?_
  refine WP.call (easg_sp x2.1 raw q (by omega) (by omega) hraw) fun r3 h3 => ?_
  refine WP.call (rasg_sp x2.1 raw q (by omega) (by omega) hraw) fun r4 h4 => ?_
  refine WP.chk (by omega) fun _ => WP.chk (by simp only [List.length_cons, List.length_nil]; omega) fun _ => ?_
  refine WP.call (easg_sp o _ q hodd hgl2 hrows) fun r5 h5 => ?_
  refine WP.chk (by omega) fun _ => WP.chk (by simp only [List.length_cons, List.length_nil]; omega) fun _ => ?_
  refine WP.call (rasg_sp o _ q hodd hgl2 hrows) fun r6 h6 => ?_
  rw [← h1.unique h2, ← h3.unique h4, ← h5.unique h6]
  have l1 := h1.len
  have l3 := h3.len
  have l5 := h5.len
  refine WP.bif (fun w => by simp at w) fun _ => ?_
  refine same_refl (by omega) ?_
  refine WP.bif (fun w => by simp at w) fun _ => ?_
  refine same_refl (by omega) ?_
  refine WP.bif (fun w => by simp at w) fun _ => ?_
  refine same_refl (by omega) ?_
  refine WP.chk ⟨by omega, by omega⟩ fun _ => ?_
  exact ih _ ⟨rfl, by dsimp only; omega, by dsimp only; omega⟩ (by dsimp only; omega)
theorem valid_of_assign {s : List ASlot} {g : List (List Int)} {k : Int} {r : List Int × Int} (hs : ∀ x ∈ s, rightS x) (hl : s.length ≤ 19) (hG : GraphB g s.length) (hk : 0 ≤ k ∧ k ≤ 1000000) (h : AssignP s g k r) : ValidB s g r.1 k := by
  obtain ⟨_, h2, h3, h4⟩ := assign_ok hs hl hG hk h
  refine ⟨slotsE_right (by omega) hs, by omega, fun x hx => ⟨(h3 x hx).2.1, (h3 x hx).1, ?_⟩, fun x y hx hy _ _ hm => h4 x y hx hy hm⟩
  have h5 := h3 x hx
  have h6 := (hs _ (atD_mem hx)).bd
  rw [rightB_iff]
  unfold ivS
  dsimp only
  omega
theorem pl_ColourAssignIsValid (codes : List Int) (k : Int) (h : ∀ z ∈ codes, 0 ≤ z ∧ z ≤ 255) (hk : 0 ≤ k ∧ k ≤ 255) : WP (law23_ColourAssignIsValid codes k) (· = true) := by
  unfold law23_ColourAssignIsValid
  refine WP.call awake23_sp ?_
  rintro _ rfl
  refine WP.bif (fun w => by cases w) (fun _ => ?_)
  refine WP.call (scene23_sp codes h) fun x2 ⟨hs, hl, hG, hc⟩ => ?_
  generalize x2.1 = s at *
  generalize x2.2.1 = g at *
  have hgl := hG.len
  refine WP.chk ⟨by omega, by omega⟩ fun _ => ?_
  refine WP.call (easg_sp s g k (by omega) (by omega) hG.rows) fun r hr => ?_
  have hV := valid_of_assign hs (by omega) hG ⟨by omega, by omega⟩ hr
  obtain ⟨h0, h1, h2, h3⟩ := assign_ok hs (by omega) hG ⟨by omega, by omega⟩ hr
  refine WP.bif (fun w => by rw [h0] at w; simp at w) fun _ => ?_
  refine WP.bif (fun w => by rw [h1] at w; simp at w) fun _ => ?_
  refine WP.chk ⟨by omega, by omega⟩ fun _ => ?_
  refine WP.call (evalid_sp s g r.1 k (by omega) (by omega) hG.rows) fun b hb => ?_
  refine WP.bif (fun w => by rw [hb.2 hV] at w; cases w) fun _ => ?_
  have hbd : ∀ x, inN x s.length → 0 ≤ atD r.1 x ∧ 1 ≤ (atD s x).Size ∧ (atD s x).Size ≤ 16 ∧ atD r.1 x + (atD s x).Size ≤ 1002000 := fun x hx => by
    have h5 := h2 x hx
    have h6 := (hs _ (atD_mem hx)).bd
    omega
  refine WP.call (end_sp s r.1 (by omega) h1 fun x hx => by have := hbd x hx; omega) ?_
  rintro _ rfl
  refine WP.loop (fun j => 0 ≤ j.2 ∧ j.2 ≤ s.length ∧ j.1 = endS s r.1 j.2.toNat) (fun j => s.length - j.2.toNat) ⟨by simp, by simp, rfl⟩ ?_
  rintro again ⟨m, i⟩ ⟨a1, a2, a3⟩ ih
  dsimp only at a1 a2 a3 ⊢
  subst a3
  refine WP.bif (fun wh => ?_) (fun wh => ?_) <;> (try simp only [wpH, ne_eq] at wh)
  · have hi : inN i s.length := ⟨a1, wh⟩
    have hb2 := hbd i hi
    have h5 := h2 i hi
    have h6 := (hs _ (atD_mem hi)).bd
    refine WP.chk ⟨a1, by omega⟩ fun _ => WP.chk ⟨by omega, by omega⟩ fun _ => ?_
    refine WP.bif (fun w => by simp at w; omega) fun _ => ?_
    refine WP.chk ⟨a1, by omega⟩ fun _ => WP.chk hi fun _ => WP.chk ⟨by omega, by omega⟩ fun _ => ?_
    refine WP.bif (fun w => by rw [Int.emod_eq_zero_of_dvd h5.2.1] at w; simp at w) fun _ => ?_
    refine WP.chk ⟨a1, by omega⟩ fun _ => WP.chk hi fun _ => WP.chk ⟨by omega, by omega⟩ fun _ => ?_
    refine WP.loop (fun j => 0 ≤ j ∧ j ≤ i) (fun j => (i - j).toNat) ⟨by omega, a1⟩ ?_
    rintro again2 y ⟨b1, b2⟩ ih2
    refine WP.bif (fun wy => ?_) (fun wy => ?_)
    · have hy : y < i := by simpa using wy
      have hyn : inN y s.length := ⟨b1, by omega⟩
      have hig : inN i g.length := ⟨a1, by omega⟩
      have step : WP (M.chk (okI (y + 1)) <| again2 (y + 1)) (· = true) := WP.chk ⟨by omega, by omega⟩ fun _ => ih2 _ ⟨by omega, by omega⟩ (by omega)
      refine WP.chk hig fun _ => ?_
      refine WP.call (has_sp' _ _ (by have := (hG.asc i hig).length; omega)) ?_
      rintro _ rfl
      refine WP.bif (fun wm => ?_) (fun _ => step)
      refine WP.chk ⟨a1, by omega⟩ fun _ => WP.chk hi fun _ => WP.chk ⟨b1, by omega⟩ fun _ => WP.chk hyn fun _ => ?_
      refine WP.call (overlap_sp' (ivS s r.1 i) (ivS s r.1 y) (hV.ok i hi).2.2 (hV.ok y hyn).2.2) ?_
      rintro _ rfl
      refine WP.bif (fun wo => ?_) (fun _ => step)
      rw [show meetB (ivS s r.1 i) (ivS s r.1 y).Off (ivS s r.1 y).Size = false from h3 i y hi hyn (by simpa using wm)] at wo
      cases wo
    · refine WP.chk ⟨by omega, by omega⟩ fun _ => ?_
      refine ih _ ⟨by dsimp only; omega, by dsimp only; omega, ?_⟩ (by dsimp only; omega)
      dsimp only
      rw [show (i + 1).toNat = i.toNat + 1 by omega, endS, show ((i.toNat : Nat) : Int) = i by omega]
  · exact WP.ret (by rw [show i.toNat = s.length by omega]; simp)
theorem pl_ColourValid (codes : List Int) (raw : List Int) (gr : List (List Int)) (k : Int) (h : ∀ z ∈ codes, 0 ≤ z ∧ z ≤ 255) (_hraw : ∀ z ∈ raw, -9223372036854775808 ≤ z ∧ z ≤ 9223372036854775807) (hgr : ∀ r ∈ gr, r.length ≤ 9223372036854775807) (_hk : -9223372036854775808 ≤ k ∧ k ≤ 9223372036854775807) : WP (law23_ColourValid codes raw gr k) (· = true) := by
  unfold law23_ColourValid
  refine WP.call awake23_sp ?_
  rintro _ rfl
  refine WP.bif (fun w => by cases w) (fun _ => ?_)
  refine WP.bif (fun _ => WP.ret rfl) (fun _ => ?_)
  refine WP.bif (fun w => WP.ret w) (fun w100 => ?_)
  have hgl2 : gr.length ≤ 100 := by simp at w100; omega
  refine WP.call (scene23_sp codes h) fun x3 ⟨hs, hl, hG, hc⟩ => ?_
  have hgl := hG.len
  refine WP.call (rasg_sp x3.1 x3.2.1 0 (by omega) (by omega) hG.rows) fun r hr => ?_
  have hrl := hr.len
  refine WP.chk (by omega) fun _ => ?_
  have key : ∀ {a b : Bool} {V : Prop}, (a = true ↔ V) → (b = true ↔ V) → a = b := fun h1 h2 => by rw [Bool.eq_iff_iff]; exact h1.trans h2.symm
  refine WP.join (fun _ => True) (fun off _ => ?_) fun kk hkk => ?_
  · refine WP.call (evalid_sp x3.1 x3.2.1 off 0 (by omega) (by omega) hG.rows) fun a ha => ?_
    refine WP.call (rvalid_sp x3.1 x3.2.1 off 0 (by omega) (by omega) hG.rows) fun b hb => ?_
    rw [key ha hb]
    refine WP.bif (fun _ => ?_) (fun w => by simp at w)
    refine WP.call (evalid_sp x3.1 gr off k (by omega) (by omega) hgr) fun a ha => ?_
    refine WP.call (rvalid_sp x3.1 gr off k (by omega) (by omega) hgr) fun b hb => ?_
    rw [key ha hb]
    refine WP.bif (fun _ => ?_) (fun w => by simp at w)
    refine WP.call (evalid_sp x3.1 x3.2.1 raw k (by omega) (by omega) hG.rows) fun a ha => ?_
    refine WP.call (rvalid_sp x3.1 x3.2.1 raw k (by omega) (by omega) hG.rows) fun b hb => ?_
    rw [key ha hb]
    exact WP.ret (by simp)
  · refine WP.call (next_sp x3.2.2 3 hc (by omega)) fun x11 ⟨g1, g2, g3, _⟩ => ?_
    have g3' := g3 (by omega)
    refine WP.loop (fun j => okC j.2.1 ∧ j.1 ≤ 3 ∧ j.2.2.length ≤ 100) (fun j => j.1.toNat) ⟨g1, by dsimp only; omega, by dsimp only; omega⟩ ?_
    rintro again ⟨n, c, off⟩ ⟨a1, a2, a3⟩ ih
    dsimp only at a1 a2 a3 ⊢
    refine WP.bif (fun wn => ?_) (fun _ => hkk off trivial)
    have hn : 0 < n := by simpa using wn
    refine WP.bif (fun wl => ?_) (fun _ => hkk off trivial)
    have hol : 0 < (off.length : Int) := by simpa using wl
    refine WP.call (next_sp c off.length a1 (by omega)) fun x12 ⟨k1, k2, k3, _⟩ => ?_
    have k3' := k3 (by omega)
    refine WP.call (next_sp x12.2 10 k1 (by omega)) fun x13 ⟨k4, k5, k6, _⟩ => ?_
    have k6' := k6 (by omega)
    refine WP.chk ⟨by omega, by omega⟩ fun _ => ?_
    refine WP.call (next_sp x13.2 30 k4 (by omega)) fun x14 ⟨k7, k8, k9, _⟩ => ?_
    refine WP.call (int23_sp _ k7) fun x15 k10 => ?_
    refine WP.call (next_sp x15.2 3 k10 (by omega)) fun x16 ⟨k11, k12, k13, _⟩ => ?_
    have k13' := k13 (by omega)
    refine WP.chk ⟨k12, by simp only [List.length_cons, List.length_nil]; omega⟩ fun _ => WP.chk ⟨k2, k3'⟩ fun _ => WP.chk ⟨by omega, by omega⟩ fun _ => ?_
    exact ih _ ⟨k11, by dsimp only; omega, by dsimp only; rw [length_setD]; exact a3⟩ (by dsimp only; omega)
end Go.Proofs.Ytcmiokobfkaldaa.Q
