/- Colours: without interference, and with all. -/
import Derived.Test.YtcmiokobfkaldaaP23d
set_option linter.unusedVariables false
set_option linter.unusedSimpArgs false
namespace Go.Proofs.Ytcmiokobfkaldaa.Q
/-! ### Without interference -/
theorem nilG (n : Nat) (k : Int) : atD (repD (n : Int) : List (List Int)) k = [] := by
  unfold atD repD
  rw [List.getD_eq_getElem?_getD, List.getElem?_replicate]
  split <;> rfl
theorem asg_empty {s : List ASlot} {k : Int} {n : Nat} (hs : ∀ x ∈ s, rightS x) (hk : 0 ≤ k ∧ k ≤ 1000000) (hd : ∀ x ∈ s, x.Align ∣ k) : ∀ {ord : List Int} {off : List Int} {done : List Bool} {r : List Int × Int}, off.length = s.length → (∀ x ∈ ord, inN x s.length) →
    AsgR s (repD (n : Int)) k ord off done r → ∃ off', r = (off', 0) ∧ off'.length = s.length ∧ ∀ x, inN x s.length → (atD off x = k ∨ x ∈ ord) → atD off' x = k
  | [], off, done, r, hl, _, h => ⟨off, h, hl, fun x _ hx => hx.elim id fun h => by cases h⟩
  | x :: ord, off, done, r, hl, hord, ⟨f, hf, hr⟩ => by
    have hx := hord x (List.mem_cons_self ..)
    have hsx := (hs _ (atD_mem hx)).bd
    have hu : usedL s (repD (n : Int)) off done x = [] := by unfold usedL; rw [nilG]; rfl
    rw [hu] at hf
    have hbad : badArgs [] k (atD s x).Size (atD s x).Align = false := by
      unfold badArgs
      rw [(boundB_iff k).2 (by omega), (boundB_iff (atD s x).Size).2 (by omega), hsx.2.2.2.2]
      rfl
    have hfree : FreeAt [] k (atD s x).Size (atD s x).Align k := ⟨hd _ (atD_mem hx), Int.le_refl _, fun a ha => by cases ha⟩
    have hfz : f = (k, 0) := by
      rcases hf with ⟨q, _⟩ | ⟨_, ⟨y, q1, q2, q3, q4⟩ | ⟨q1, _⟩⟩
      · rw [hbad] at q; cases q
      · have := q3 k hfree; have := q1.ge
        rw [q4, show y = k by omega]
      · have := q1 k hfree; omega
    subst hfz
    rcases hr with ⟨q, _⟩ | ⟨_, hr⟩
    · exact absurd rfl q
    dsimp only at hr
    obtain ⟨off', h1, h2, h3⟩ := asg_empty hs hk hd (by rw [length_setD]; exact hl) (fun y hy => hord y (List.mem_cons_of_mem _ hy)) hr
    refine ⟨off', h1, h2, fun y hy hyo => h3 y hy ?_⟩
    rw [atD_setD ⟨hx.1, by rw [hl]; exact hx.2⟩ hy.1]
    by_cases hyx : y = x
    · exact .inl (if_pos hyx)
    · rw [if_neg hyx]
      exact hyo.imp id fun h => (List.mem_cons.1 h).resolve_left hyx
theorem assign_empty {s : List ASlot} {k : Int} {r : List Int × Int} (hs : ∀ x ∈ s, rightS x) (hl : s.length ≤ 19) (hk : 0 ≤ k ∧ k ≤ 1000000) (hd : ∀ x ∈ s, x.Align ∣ k) (h : AssignP s (repD (s.length : Int)) k r) : ∀ x, inN x s.length → atD r.1 x = k := by
  rcases h with ⟨h1, _⟩ | ⟨_, ⟨h1, _⟩ | ⟨_, ord, h2, h3⟩⟩
  · exact absurd (slotsE_right (by omega) hs) h1
  · exact absurd ⟨GraphB.nil _, hk.1, by omega⟩ h1
  obtain ⟨off', h4, h5, h6⟩ := asg_empty hs hk hd (by simp [length_repD]) (fun x hx => (h2.mem).1 hx) h3
  rw [h4]
  exact fun x hx => h6 x hx (.inr ((h2.mem).2 hx))
def frow (n : Nat) (t : Int) : List Int := (rngL n).filter fun y => !decide (t = y)
theorem mem_frow {n : Nat} {t y : Int} : y ∈ frow n t ↔ (0 ≤ y ∧ y < n) ∧ t ≠ y := by
  unfold frow
  rw [List.mem_filter, mem_rngL]
  simp
theorem frow_len (n : Nat) (t : Int) : (frow n t).length ≤ n := by
  unfold frow
  have := List.length_filter_le (fun y => !decide (t = y)) (rngL n)
  rw [rngL_length] at this; exact this
theorem frow_succ (n : Nat) (t : Int) : frow (n + 1) t = if t = n then frow n t else frow n t ++ [(n : Int)] := by
  unfold frow
  rw [rngL_succ, List.filter_append]
  by_cases h : t = n
  · simp [h]
  · simp [h]
theorem frow_asc {n : Nat} (hn : n ≤ 512) (t : Int) : IsS (frow n t) := by
  refine ⟨?_, fun x hx => ?_⟩
  · unfold frow rngL
    refine List.Pairwise.filter _ ?_
    rw [List.pairwise_map]
    exact List.pairwise_lt_range.imp fun h => by omega
  · have := mem_frow.1 hx; omega
theorem full_graph {g : List (List Int)} {n : Nat} (hn : n ≤ 512) (hl : g.length = n) (h : ∀ t, inN t n → atD g t = frow n t) : GraphB g n := by
  refine ⟨by omega, fun x hx => ?_, fun x hx => ?_, fun x hx y hy => ?_, fun x hx y hy => ?_⟩
  all_goals have hx' : inN x n := ⟨hx.1, by have := hx.2; omega⟩
  · rw [h x hx']; exact frow_asc hn x
  · rw [h x hx']; intro hm; exact (mem_frow.1 hm).2 rfl
  · rw [h x hx'] at hy; exact (mem_frow.1 hy).1
  · rw [h x hx'] at hy
    obtain ⟨h1, h2⟩ := mem_frow.1 hy
    rw [h y h1]
    exact mem_frow.2 ⟨hx', Ne.symm h2⟩
def szs : List AInterval → Int
  | [] => 0
  | a :: l => a.Size + szs l
theorem szs_append (l m : List AInterval) : szs (l ++ m) = szs l + szs m := by
  induction l with
  | nil => simp [szs]
  | cons a l ih => simp only [List.cons_append, szs, ih]; omega
theorem szs_perm {l l' : List AInterval} (h : l.Perm l') : szs l = szs l' := by
  induction h with
  | nil => rfl
  | cons x _ ih => simp only [szs, ih]
  | swap x y l => simp only [szs]; omega
  | trans _ _ h1 h2 => omega
theorem szs_le {E : Int} : ∀ {l : List AInterval} {k : Int}, k ≤ E → l.Pairwise (fun a b => a.Off ≤ b.Off) → l.Pairwise (fun a b => meetB a b.Off b.Size = false) → (∀ a ∈ l, k ≤ a.Off ∧ 1 ≤ a.Size ∧ a.Off + a.Size ≤ E) → k + szs l ≤ E
  | [], k, hk, _, _, _ => by simp [szs]; exact hk
  | a :: l, k, hk, h1, h2, h3 => by
    obtain ⟨p1, p2⟩ := List.pairwise_cons.1 h1
    obtain ⟨q1, q2⟩ := List.pairwise_cons.1 h2
    have ha := h3 a (by simp)
    have := szs_le (E := E) (l := l) (k := a.Off + a.Size) ha.2.2 p2 q2 fun b hb => by
      have hb' := h3 b (List.mem_cons_of_mem _ hb)
      have hm := q1 b hb
      have ho := p1 b hb
      unfold meetB at hm
      rw [decide_eq_false_iff_not] at hm
      refine ⟨by omega, hb'.2⟩
    simp only [szs]
    omega
theorem fill_le {E k : Int} {l : List AInterval} (hk : k ≤ E) (h2 : l.Pairwise (fun a b => meetB a b.Off b.Size = false)) (h3 : ∀ a ∈ l, k ≤ a.Off ∧ 1 ≤ a.Size ∧ a.Off + a.Size ≤ E) : k + szs l ≤ E := by
  obtain ⟨hp, hs⟩ := sort_sp l
  rw [← szs_perm hp]
  refine szs_le hk hs ?_ fun a ha => h3 a (hp.mem_iff.1 ha)
  exact (hp.pairwise_iff (R := fun a b : AInterval => meetB a b.Off b.Size = false) fun {a b} h => by rw [meetB_symm]; exact h).2 h2
theorem law_full (s : List ASlot) (q : Int) (hs : ∀ x ∈ s, rightS x) (hl : s.length ≤ 9) (hq : 0 ≤ q ∧ q ≤ 256) (hd : ∀ x ∈ s, x.Align ∣ q) (o1 : List Int) (ho1 : o1.length = s.length) (he : ∀ x, inN x s.length → atD o1 x = q)
    (o2 : List Int) (ho2 : o2.length = s.length) (h2 : ∀ x, inN x s.length → q ≤ atD o2 x ∧ (atD s x).Align ∣ atD o2 x ∧ atD o2 x + (atD s x).Size ≤ 1002000) (h3 : ∀ x y, inN x s.length → inN y s.length → x ≠ y → meetB (ivS s o2 x) (atD o2 y) (atD s y).Size = false) :
    WP (M.loop (fun again3 ((sum1, i2) : Int × Int) =>
                               M.bif (decide (i2 < (s.length : Int)))
                                 (M.chk ((0 : Int) ≤ i2 ∧ i2 < (o1.length : Int)) <|
                                  M.bif (!decide ((atD o1 i2) = q))
                                    (M.ret false)
                                    (M.chk ((0 : Int) ≤ i2 ∧ i2 < (s.length : Int)) <|
                                     M.chk (okI (sum1 + ((atD s i2).Size))) <|
                                     M.loop (fun again4 (j2 : Int) =>
                                         M.bif (decide (j2 < i2))
                                           (M.chk ((0 : Int) ≤ i2 ∧ i2 < (o2.length : Int)) <|
                                            M.chk ((0 : Int) ≤ i2 ∧ i2 < (s.length : Int)) <|
                                            M.chk ((0 : Int) ≤ j2 ∧ j2 < (o2.length : Int)) <|
                                            M.chk ((0 : Int) ≤ j2 ∧ j2 < (s.length : Int)) <|
                                            M.call (r03_Overlap (⟨(atD o2 i2), (atD s i2).Size⟩ : AInterval) (⟨(atD o2 j2), (atD s j2).Size⟩ : AInterval)) fun x6 =>
                                            M.bif x6
                                              (M.ret false)
                                              (M.chk (okI (j2 + 1)) <|
                                               again4 (j2 + 1)))
                                           (M.chk (okI (i2 + 1)) <|
                                            again3 ((sum1 + ((atD s i2).Size)), (i2 + 1)))) 0))
                                 (M.bif (decide ((s.length : Int) = 0))
                                    (M.ret true)
                                    (M.call (colour_End s o2) fun x7 =>
                                     M.chk (okI (q + sum1)) <|
                                     M.ret (decide ((q + sum1) ≤ x7))))) (0, 0)) (· = true) := by
  have hbd : ∀ x, inN x s.length → 0 ≤ atD o2 x ∧ 1 ≤ (atD s x).Size ∧ (atD s x).Size ≤ 16 ∧ atD o2 x + (atD s x).Size ≤ 1002000 ∧ rightB (ivS s o2 x) = true := fun x hx => by
    have h5 := h2 x hx
    have h6 := (hs _ (atD_mem hx)).bd
    refine ⟨by omega, by omega, by omega, by omega, (rightB_iff _).2 ?_⟩
    unfold ivS
    dsimp only
    omega
  refine WP.loop (fun j => 0 ≤ j.2 ∧ j.2 ≤ s.length ∧ 0 ≤ j.1 ∧ j.1 ≤ 16 * j.2 ∧ j.1 = szs ((rngL j.2.toNat).map (ivS s o2))) (fun j => s.length - j.2.toNat) ⟨by simp, by simp, by simp, by simp, rfl⟩ ?_
  rintro again ⟨m, i⟩ ⟨a1, a2, a4, a5, a3⟩ ih
  dsimp only at a1 a2 a3 a4 a5 ⊢
  refine WP.bif (fun wh => ?_) (fun wh => ?_) <;> (try simp only [wpH, ne_eq] at wh)
  · have hi : inN i s.length := ⟨a1, wh⟩
    have hb2 := hbd i hi
    refine WP.chk ⟨a1, by omega⟩ fun _ => ?_
    refine WP.bif (fun w => by rw [he i hi] at w; simp at w) fun _ => ?_
    refine WP.chk hi fun _ => WP.chk ⟨by omega, by omega⟩ fun _ => ?_
    refine WP.loop (fun j => 0 ≤ j ∧ j ≤ i) (fun j => (i - j).toNat) ⟨by omega, a1⟩ ?_
    rintro again2 y ⟨b1, b2⟩ ih2
    refine WP.bif (fun wy => ?_) (fun wy => ?_)
    · have hy : y < i := by simpa using wy
      have hyn : inN y s.length := ⟨b1, by omega⟩
      refine WP.chk ⟨a1, by omega⟩ fun _ => WP.chk hi fun _ => WP.chk ⟨b1, by omega⟩ fun _ => WP.chk hyn fun _ => ?_
      refine WP.call (overlap_sp' (ivS s o2 i) (ivS s o2 y) hb2.2.2.2.2 (hbd y hyn).2.2.2.2) ?_
      rintro _ rfl
      refine WP.bif (fun wo => ?_) (fun _ => WP.chk ⟨by omega, by omega⟩ fun _ => ih2 _ ⟨by omega, by omega⟩ (by omega))
      rw [show meetB (ivS s o2 i) (ivS s o2 y).Off (ivS s o2 y).Size = false from h3 i y hi hyn (by omega)] at wo
      cases wo
    · refine WP.chk ⟨by omega, by omega⟩ fun _ => ?_
      refine ih _ ⟨by dsimp only; omega, by dsimp only; omega, by dsimp only; omega, by dsimp only; omega, ?_⟩ (by dsimp only; omega)
      dsimp only
      rw [show (i + 1).toNat = i.toNat + 1 by omega, rngL_succ, List.map_append, szs_append, ← a3, show ((i.toNat : Nat) : Int) = i by omega]
      simp [szs, ivS]
  · refine WP.bif (fun _ => WP.ret rfl) (fun w0 => ?_)
    have hn0 : 0 < s.length := by simp at w0; exact Nat.pos_of_ne_zero (by simpa using w0)
    refine WP.call (end_sp s o2 (by omega) ho2 fun x hx => by have := hbd x hx; omega) ?_
    rintro _ rfl
    refine WP.chk ⟨by omega, by omega⟩ fun _ => WP.ret ?_
    rw [decide_eq_true_eq, a3, show i.toNat = s.length by omega]
    have hge : ∀ x, inN x s.length → atD o2 x + (atD s x).Size ≤ endS s o2 s.length := fun x hx => by
      have := endS_ge (s := s) (off := o2) (n := s.length) (x := x.toNat) (by have := hx.2; have := hx.1; omega)
      rw [show ((x.toNat : Nat) : Int) = x by have := hx.1; omega] at this
      exact this
    refine fill_le ?_ ?_ ?_
    · have h0 : inN 0 s.length := ⟨by omega, by omega⟩
      have := hge 0 h0; have := h2 0 h0; have := hbd 0 h0
      omega
    · rw [List.pairwise_map]
      refine (rngL_nodup s.length).imp_of_mem fun {a b} ha hb hab => ?_
      exact h3 a b (mem_rngL.1 ha) (mem_rngL.1 hb) hab
    · intro a ha
      obtain ⟨x, hx, rfl⟩ := List.mem_map.1 ha
      have hx' := mem_rngL.1 hx
      exact ⟨(h2 x hx').1, (hbd x hx').2.1, hge x hx'⟩
theorem pl_ColourWithoutInterference (codes : List Int) (k : Int) (h : ∀ z ∈ codes, 0 ≤ z ∧ z ≤ 255) (hk : 0 ≤ k ∧ k ≤ 255) : WP (law23_ColourWithoutInterference codes k) (· = true) := by
  unfold law23_ColourWithoutInterference
  refine WP.call awake23_sp ?_
  rintro _ rfl
  refine WP.bif (fun w => by cases w) (fun _ => ?_)
  refine WP.call (scene23_sp codes h) fun x2 ⟨hs, hl, hG, hc⟩ => ?_
  generalize x2.1 = s at *
  have hq : 0 ≤ (64 : Int) * (k % 5) ∧ (64 : Int) * (k % 5) ≤ 256 := by omega
  have hd : ∀ x ∈ s, x.Align ∣ (64 : Int) * (k % 5) := fun x hx => by
    obtain ⟨_, h2⟩ := hs x hx
    rcases h2 with h2 | h2 | h2 | h2 | h2 | h2 | h2 <;> rw [h2] <;> omega
  refine WP.chk ⟨by omega, by omega⟩ fun _ => WP.chk ⟨by omega, by omega⟩ fun _ => WP.chk ⟨by omega, by omega⟩ fun _ => WP.chk ⟨by omega, by omega⟩ fun _ => ?_
  generalize (64 : Int) * (k % 5) = q at *
  have hnil := GraphB.nil s.length
  refine WP.call (easg_sp s _ q (by omega) (by have := hnil.len; omega) hnil.rows) fun x3 h3 => ?_
  obtain ⟨a1, a2, _, _⟩ := assign_ok hs (by omega) hnil ⟨by omega, by omega⟩ h3
  have he := assign_empty hs (by omega) ⟨by omega, by omega⟩ hd h3
  refine WP.chk ⟨by omega, by omega⟩ fun _ => ?_
  refine WP.loop (fun j => 0 ≤ j.1 ∧ j.1 ≤ s.length ∧ j.2.length = s.length ∧ ∀ t, inN t s.length → atD j.2 t = if t < j.1 then frow s.length t else []) (fun j => s.length - j.1.toNat) ⟨by simp, by simp, by simp [length_repD], fun t ht => by dsimp only; rw [nilG, if_neg (by have := ht.1; omega)]⟩ ?_
  rintro again ⟨i, full⟩ ⟨b1, b2, b3, b4⟩ ih
  dsimp only at b1 b2 b3 b4 ⊢
  refine WP.bif (fun wh => ?_) (fun wh => ?_) <;> (try simp only [wpH, ne_eq] at wh)
  · have hi : inN i s.length := ⟨b1, wh⟩
    refine WP.loop (fun j => ∃ m : Nat, j.1 = m ∧ m ≤ s.length ∧ j.2.length = s.length ∧ ∀ t, inN t s.length → atD j.2 t = if t < i then frow s.length t else if t = i then frow m t else []) (fun j => s.length - j.1.toNat) ⟨0, rfl, by omega, b3, fun t ht => by
      dsimp only; rw [b4 t ht]; split
      · rfl
      · split <;> rfl⟩ ?_
    rintro again2 ⟨j, full2⟩ ⟨m, c1, c2, c3, c4⟩ ih2
    dsimp only at c1 c2 c3 c4 ⊢
    subst c1
    refine WP.bif (fun wh => ?_) (fun wh => ?_) <;> (try simp only [wpH, ne_eq] at wh)
    · have hrow : atD full2 i = frow m i := by rw [c4 i hi, if_neg (by omega), if_pos rfl]
      refine WP.bif (fun wh => ?_) (fun wh => ?_) <;> (try simp only [wpH, ne_eq] at wh)
      · have hlen := frow_len m i
        refine WP.chk ⟨b1, by omega⟩ fun _ => WP.chk (by rw [hrow]; omega) fun _ => WP.chk (by rw [hrow]; simp only [List.length_cons, List.length_nil]; omega) fun _ => WP.chk ⟨b1, by omega⟩ fun _ => WP.chk ⟨by omega, by omega⟩ fun _ => ?_
        refine ih2 _ ⟨m + 1, by dsimp only; omega, by omega, by dsimp only; rw [length_setD]; exact c3, fun t ht => ?_⟩ (by dsimp only; omega)
        dsimp only
        rw [atD_setD ⟨b1, by omega⟩ ht.1]
        by_cases hti : t = i
        · subst hti
          rw [if_pos rfl, if_neg (by omega), if_pos rfl, hrow, frow_succ, if_neg (by omega)]
        · rw [if_neg hti, c4 t ht, if_neg hti, if_neg hti]
      · refine WP.chk ⟨by omega, by omega⟩ fun _ => ?_
        refine ih2 _ ⟨m + 1, by dsimp only; omega, by omega, c3, fun t ht => ?_⟩ (by dsimp only; omega)
        dsimp only
        rw [c4 t ht]
        by_cases hti : t = i
        · subst hti
          rw [if_neg (by omega), if_pos rfl, if_neg (by omega), if_pos rfl, frow_succ, if_pos (by omega)]
        · rw [if_neg hti, if_neg hti]
    · refine WP.chk ⟨by omega, by omega⟩ fun _ => ?_
      refine ih _ ⟨by dsimp only; omega, by dsimp only; omega, c3, fun t ht => ?_⟩ (by dsimp only; omega)
      dsimp only
      rw [c4 t ht, show m = s.length by omega]
      by_cases h1 : t < i
      · rw [if_pos h1, if_pos (by omega)]
      · rw [if_neg h1]
        by_cases h2 : t = i
        · rw [if_pos h2, if_pos (by omega)]
        · rw [if_neg h2, if_neg (by omega)]
  · have hF : GraphB full s.length := full_graph (by omega) b3 fun t ht => by rw [b4 t ht, if_pos (by have := ht.2; omega)]
    refine WP.call (easg_sp s full q (by omega) (by omega) hF.rows) fun x4 h4 => ?_
    obtain ⟨d0, d1, d2, d3⟩ := assign_ok hs (by omega) hF ⟨by omega, by omega⟩ h4
    refine WP.bif (fun w => by rw [a1] at w; simp at w) fun _ => ?_
    refine WP.bif (fun w => by rw [d0] at w; simp at w) fun _ => ?_
    refine WP.bif (fun w => by rw [a2] at w; simp at w) fun _ => ?_
    refine WP.bif (fun w => by rw [d1] at w; simp at w) fun _ => ?_
    refine WP.call (rgcheck_sp full s.length (by omega) hF.rows) fun b hb => ?_
    refine WP.bif (fun w => by rw [hb.2 hF] at w; cases w) fun _ => ?_
    refine law_full s q hs (by omega) hq hd x3.1 a2 he x4.1 d1 d2 fun x y hx hy hne => d3 x y hx hy ?_
    rw [b4 x hx, if_pos (by have := hx.2; omega)]
    exact mem_frow.2 ⟨hy, hne⟩
end Go.Proofs.Ytcmiokobfkaldaa.Q
