/- Frames: where the ranges of the baseline lie; finishing; padding; the laws. -/
import Derived.Test.YtbppgdffochdmaaP24b
set_option linter.unusedVariables false
set_option linter.unusedSimpArgs false
namespace Go.Proofs.Ytbppgdffochdmaa.Q
section
variable {l : List ASlot} {e : Int}
theorem offL_at (k : Int) (hk : inN k l.length) : atD (offL e l).1 k = upZ (offL e (l.take k.toNat)).2 (atD l k).Align ∧ (offL e (l.take (k + 1).toNat)).2 = atD (offL e l).1 k + (atD l k).Size := by
  obtain ⟨h1, h2⟩ := hk
  have hpre : ∀ (r : List ASlot) (q : List Int × Int), ∃ t, (r.foldl offF q).1 = q.1 ++ t := by
    intro r
    induction r with
    | nil => intro q; exact ⟨[], by simp⟩
    | cons s r ih =>
      intro q
      obtain ⟨t, ht⟩ := ih (offF q s)
      refine ⟨[upZ q.2 s.Align] ++ t, ?_⟩
      rw [List.foldl_cons, ht]
      simp [offF]
  have htk : l.take (k + 1).toNat = l.take k.toNat ++ [atD l k] := take_atD ⟨h1, h2⟩
  have hq : offL e (l.take (k + 1).toNat) = offF (offL e (l.take k.toNat)) (atD l k) := by rw [htk, offL_snoc]
  have hd : offL e l = (l.drop (k + 1).toNat).foldl offF (offL e (l.take (k + 1).toNat)) := by
    unfold offL
    rw [← List.foldl_append, List.take_append_drop]
  obtain ⟨t, ht⟩ := hpre (l.drop (k + 1).toNat) (offL e (l.take (k + 1).toNat))
  have hlen : (offL e (l.take k.toNat)).1.length = k.toNat := by rw [offL_len, List.length_take]; omega
  have hat : atD (offL e l).1 k = upZ (offL e (l.take k.toNat)).2 (atD l k).Align := by
    rw [hd, ht, hq]
    unfold offF
    dsimp only
    rw [atD_append_left (by simp only [List.length_append, List.length_singleton]; omega), atD_last (by omega)]
  refine ⟨hat, ?_⟩
  rw [hat, hq]
  rfl
theorem offL_mono2 (hs : ∀ s ∈ l, okS s) {j k : Nat} (h : j ≤ k) : (offL e (l.take j)).2 ≤ (offL e (l.take k)).2 := by
  have := offL_take (e := e) (l := l.take k) (fun s h => hs s (List.mem_of_mem_take h)) j
  rw [List.take_take, Nat.min_eq_left h] at this
  exact this
/-- Where range k lies. -/
theorem off_facts (hs : ∀ s ∈ l, okS s) (k : Int) (hk : inN k l.length) : e ≤ atD (offL e l).1 k ∧ 0 ≤ (atD l k).Size ∧ (atD l k).Size ≤ 16 ∧ atD (offL e l).1 k + (atD l k).Size ≤ (offL e l).2 ∧ atD (offL e l).1 k % (atD l k).Align = 0 ∧ 1 ≤ (atD l k).Align ∧ (∀ j, 0 ≤ j → j < k → atD (offL e l).1 j + (atD l j).Size ≤ atD (offL e l).1 k) := by
  obtain ⟨h1, h2⟩ := offL_at (e := e) k hk
  obtain ⟨s1, s2, s3⟩ := hs _ (atD_mem hk)
  have h3 := upZ_le (n := (offL e (l.take k.toNat)).2) (powB_bd s3).1
  have h4 := off_mono (l := l.take k.toNat) ([], e) fun s h => hs s (List.mem_of_mem_take h)
  change e ≤ (offL e (l.take k.toNat)).2 at h4
  have h5 := offL_take (e := e) hs (k + 1).toNat
  refine ⟨by omega, s1, s2, by omega, ?_, (powB_bd s3).1, fun j hj1 hj2 => ?_⟩
  · rw [h1]; exact upZ_mod _ _
  · obtain ⟨h6, h7⟩ := offL_at (e := e) (l := l) j ⟨hj1, by have := hk.2; omega⟩
    have h8 := offL_mono2 (e := e) hs (j := (j + 1).toNat) (k := k.toNat) (by omega)
    omega
end
/-- The greatest end of a range. -/
def endP (l : List ASlot) (off : List Int) (r : Int) : Prop := 0 ≤ r ∧ (∀ k, inN k l.length → atD off k + (atD l k).Size ≤ r) ∧ (r = 0 ∨ ∃ k, inN k l.length ∧ r = atD off k + (atD l k).Size)
theorem end_sp (l : List ASlot) (off : List Int) (hl : l.length ≤ 1000000) (h : l.length ≤ off.length) (hb : ∀ k, inN k l.length → 0 ≤ atD off k ∧ 0 ≤ (atD l k).Size ∧ atD off k + (atD l k).Size ≤ 2147483647) : WP (colour_End l off) (endP l off) := by
  unfold colour_End
  refine WP.loop (fun j => (0 ≤ j.2 ∧ j.2 ≤ l.length) ∧ 0 ≤ j.1 ∧ (∀ k, 0 ≤ k → k < j.2 → atD off k + (atD l k).Size ≤ j.1) ∧ (j.1 = 0 ∨ ∃ k, inN k l.length ∧ j.1 = atD off k + (atD l k).Size)) (fun j => l.length - j.2.toNat) ⟨⟨by simp, by simp⟩, by simp, fun k h1 h2 => by exfalso; dsimp only at h2; omega, .inl rfl⟩ ?_
  rintro again ⟨r, k⟩ ⟨⟨a1, a2⟩, a3, a4, a5⟩ ih
  dsimp only at a1 a2 a3 a4 a5 ih ⊢
  refine WP.bif (fun wh => ?_) (fun wh => ?_) <;> (try simp only [decide_eq_true_eq, decide_eq_false_iff_not, Bool.not_eq_true', Bool.not_eq_false', Bool.and_eq_true, Bool.or_eq_true, Bool.not_eq_true, Bool.not_eq_false, Int.not_lt, Int.not_le, ne_eq] at wh)
  · have hkl := wh
    obtain ⟨b1, b2, b3⟩ := hb k ⟨a1, wh⟩
    refine WP.chk ⟨by omega, by omega⟩ fun _ => ?_
    refine WP.chk ⟨by omega, by omega⟩ fun _ => ?_
    refine WP.chk ⟨by omega, by omega⟩ fun _ => ?_
    refine WP.chk ⟨by omega, by omega⟩ fun _ => ?_
    refine ih _ ⟨⟨by dsimp only; omega, by dsimp only; omega⟩, by dsimp only; omega, fun t h1 h2 => ?_, ?_⟩ (by dsimp only; omega)
    · dsimp only at h2 ⊢
      by_cases ht : t = k
      · rw [ht]; omega
      · have := a4 t h1 (by omega); omega
    · dsimp only
      by_cases hm : r ≤ atD off k + (atD l k).Size
      · exact .inr ⟨k, ⟨a1, hkl⟩, by omega⟩
      · rcases a5 with q | ⟨t, q1, q2⟩
        · exact .inl (by omega)
        · exact .inr ⟨t, q1, by omega⟩
  · exact WP.ret ⟨a3, fun t ht => a4 t ht.1 (by have := ht.2; omega), a5⟩
theorem clone_sp (l : List Int) (hl : l.length ≤ 1000000) : WP (slices_Clone___int_int_ l) (· = l) := by
  unfold slices_Clone___int_int_
  refine WP.both l (fun h => ?_) ?_ rfl
  · exact WP.ret h.symm
  · refine WP.chk (by simp only [List.length_nil]; omega) fun _ => ?_
    exact WP.ret rfl
theorem inside_sp (a : AInterval) (m : Int) (h0 : 0 ≤ a.Off) (h1 : 0 ≤ a.Size) (h2 : a.Off + a.Size ≤ 2147483647) : WP (extent_Inside a m) (· = decide (a.Off + a.Size ≤ m)) := by
  unfold extent_Inside extent_right
  refine WP.call (R := (· = true)) ?_ ?_
  · refine WP.call (ebound_sp _) ?_
    rintro _ rfl
    rw [(boundB_iff a.Off).2 ⟨h0, by omega⟩]
    refine WP.bif (fun _ => ?_) (fun wh => by cases wh)
    refine WP.call (ebound_sp _) ?_
    rintro _ rfl
    rw [(boundB_iff a.Size).2 ⟨h1, by omega⟩]
    refine WP.bif (fun _ => ?_) (fun wh => by cases wh)
    refine WP.chk ⟨by omega, by omega⟩ fun _ => ?_
    exact WP.ret (by simp; omega)
  rintro _ rfl
  refine WP.bif (fun _ => ?_) (fun wh => by cases wh)
  refine WP.chk ⟨by omega, by omega⟩ fun _ => ?_
  exact WP.ret rfl
theorem finish_sp {p : AProgram} {i al args : Int} {off : List Int} (hi : inN i p.Funcs.length) (ha : WP (pack_Args p i) (· = args)) (h0 : 0 ≤ args) (h1 : args ≤ 2147483647) (hl : (atD p.Funcs i).Slots.length ≤ 1000000) (hal : powB al = true) (hlen : off.length = (atD p.Funcs i).Slots.length)
    (hb : ∀ k, inN k (atD p.Funcs i).Slots.length → 0 ≤ atD off k ∧ 0 ≤ (atD (atD p.Funcs i).Slots k).Size ∧ atD off k + (atD (atD p.Funcs i).Slots k).Size ≤ 2147483647) : WP (pack_Finish p i al off) fun r => ∃ E, endP (atD p.Funcs i).Slots off E ∧ r = if 2147483519 < upZ (max (max args 0) E) al then (⟨0, 0, []⟩, 9) else (⟨args, upZ (max (max args 0) E) al, off⟩, 0) := by
  unfold pack_Finish
  refine WP.chk hi fun _ => ?_
  refine WP.bif (fun wh => ?_) fun _ => ?_
  · exfalso
    rw [Bool.not_eq_true', decide_eq_false_iff_not] at wh
    omega
  generalize hL : (atD p.Funcs i).Slots = l at *
  refine WP.loop (fun j => 0 ≤ j ∧ j ≤ l.length) (fun j => l.length - j.toNat) ⟨by omega, by omega⟩ ?_
  rintro again k ⟨a1, a2⟩ ih
  refine WP.bif (fun wh => ?_) (fun wh => ?_) <;> (try simp only [decide_eq_true_eq, decide_eq_false_iff_not, Bool.not_eq_true', Bool.not_eq_false', Bool.and_eq_true, Bool.or_eq_true, Bool.not_eq_true, Bool.not_eq_false, Int.not_lt, Int.not_le, ne_eq] at wh)
  · have hkl := wh
    obtain ⟨b1, b2, b3⟩ := hb k ⟨a1, wh⟩
    refine WP.chk ⟨by omega, by omega⟩ fun _ => ?_
    refine WP.chk ⟨by omega, by omega⟩ fun _ => ?_
    refine WP.call (inside_sp _ _ b1 b2 b3) ?_
    rintro _ rfl
    refine WP.bif (fun wh => ?_) fun _ => ?_
    · exfalso
      rw [Bool.not_eq_true', decide_eq_false_iff_not] at wh
      exact wh b3
    refine WP.chk ⟨by omega, by omega⟩ fun _ => ?_
    exact ih _ ⟨by omega, by omega⟩ (by omega)
  · refine WP.call ha ?_
    intro x hx
    rw [hx]
    clear hx x
    refine WP.call (clone_sp off (by omega)) ?_
    intro x hx
    rw [hx]
    clear hx x
    refine WP.call (end_sp l off hl (by omega) hb) fun E hE => ?_
    have hE2 : 0 ≤ E ∧ E ≤ 2147483647 := by
      refine ⟨hE.1, ?_⟩
      rcases hE.2.2 with q | ⟨t, q1, q2⟩
      · omega
      · have := hb t q1; omega
    refine WP.call (sized_sp _ _ (by omega) (by omega) hal) fun x6 hx6 => ?_
    exact WP.ret ⟨E, hE, by rw [← hx6]⟩
theorem rright_sp (a : AInterval) (h0 : 0 ≤ a.Off) (h1 : 0 ≤ a.Size) (h2 : a.Off + a.Size ≤ 2147483647) : WP (r03_Right a) (· = true) := by
  unfold r03_Right
  refine WP.call (rbound_sp _) ?_
  rintro _ rfl
  rw [(boundB_iff a.Off).2 ⟨h0, by omega⟩]
  refine WP.bif (fun _ => ?_) (fun wh => by cases wh)
  refine WP.call (rbound_sp _) ?_
  rintro _ rfl
  rw [(boundB_iff a.Size).2 ⟨h1, by omega⟩]
  refine WP.bif (fun _ => ?_) (fun wh => by cases wh)
  refine WP.chk ⟨by omega, by omega⟩ fun _ => ?_
  exact WP.ret (by simp; omega)
theorem roverlap_sp (a b : AInterval) (h0 : 0 ≤ a.Off) (h1 : 0 ≤ a.Size) (h2 : a.Off + a.Size ≤ 2147483647) (g0 : 0 ≤ b.Off) (g1 : 0 ≤ b.Size) (g2 : b.Off + b.Size ≤ a.Off) : WP (r03_Overlap a b) (· = false) := by
  unfold r03_Overlap
  refine WP.call (rright_sp a h0 h1 h2) ?_
  rintro _ rfl
  refine WP.bif (fun _ => ?_) (fun wh => by cases wh)
  refine WP.call (rright_sp b g0 g1 (by omega)) ?_
  rintro _ rfl
  refine WP.bif (fun _ => ?_) (fun wh => by cases wh)
  refine WP.bif (fun _ => ?_) (fun _ => WP.ret rfl)
  refine WP.bif (fun _ => ?_) (fun _ => WP.ret rfl)
  refine WP.chk ⟨by omega, by omega⟩ fun _ => ?_
  refine WP.bif (fun wh => ?_) (fun _ => WP.ret rfl)
  exfalso
  simp only [decide_eq_true_eq] at wh
  omega
/-! ### The scene's frame -/
structure FrameS (cs : List Int) (p : AProgram) (i al : Int) (args : Int) (l : List ASlot) : Prop where
  idx : inN i p.Funcs.length
  sl : (atD p.Funcs i).Slots = l
  arg : WP (pack_Args p i) (· = args)
  a0 : 0 ≤ args
  a1 : args ≤ 128
  len : l.length ≤ 6
  ok : ∀ s ∈ l, rightS s
  pow : powB al = true
  alb : 1 ≤ al ∧ al ≤ 256
theorem frame_sp (cs : List Int) (h : isU8 cs) : WP (law24_scene cs) fun r => ∃ args l, FrameS cs r.1 r.2.1 r.2.2.1 args l :=
  (scene24_sp cs h).mono fun r ⟨h1, h2, h3, h4, h5⟩ => by
    obtain ⟨hp1, hp2, hp3⟩ := alP_pow h1 h4
    have hA := argsN_R h1 h3 (l := (atD r.1.Funcs r.2.1).Code) fun x hx => hx
    have hsl := h1.slotsR (atD_mem h3)
    exact ⟨_, _, h3, rfl, args24_sp _ _ h1 h3, by omega, by omega, hsl.1, hsl.2, hp1, hp3, hp2⟩
end Go.Proofs.Ytbppgdffochdmaa.Q
