/- Finishing any offsets: the law. -/
import Derived.Test.YtbppgdffochdmaaP24d
import Derived.Test.YtbppgdffochdmaaP32
set_option linter.unusedVariables false
set_option linter.unusedSimpArgs false
namespace Go.Proofs.Ytbppgdffochdmaa.Q
theorem insideG_sp (a : AInterval) : WP (extent_Inside a 2147483647) fun b => (b = true ↔ rgtP a) := by
  unfold extent_Inside extent_right rgtP
  refine WP.call (R := fun b => (b = true ↔ rgtP a)) ?_ ?_
  · unfold rgtP
    refine WP.call (ebound_sp _) ?_
    rintro _ rfl
    refine WP.bif (fun wh => ?_) (fun wh => ?_)
    · have h1 := (boundB_iff _).1 wh
      refine WP.call (ebound_sp _) ?_
      rintro _ rfl
      refine WP.bif (fun wh => ?_) (fun wh => ?_)
      · have h2 := (boundB_iff _).1 wh
        refine WP.chk ⟨by omega, by omega⟩ fun _ => ?_
        exact WP.ret (by rw [decide_eq_true_eq]; omega)
      · have h2 := (boundB_no _).1 wh
        exact WP.ret ⟨fun q => (by cases q), fun q => by exfalso; omega⟩
    · have h1 := (boundB_no _).1 wh
      exact WP.ret ⟨fun q => (by cases q), fun q => by exfalso; omega⟩
  intro b hb
  refine WP.bif (fun wh => ?_) (fun wh => ?_)
  · have := hb.1 wh
    unfold rgtP at this
    refine WP.chk ⟨by omega, by omega⟩ fun _ => ?_
    exact WP.ret (by rw [decide_eq_true_eq]; omega)
  · exact WP.ret ⟨fun q => (by cases q), fun q => by rw [hb.2 q] at wh; cases wh⟩
section
variable {p : AProgram} {i al args : Int} {l : List ASlot} {off : List Int}
theorem cend23_sp (hl : l.length ≤ 1000000) (h : okOff l off) : WP (colour_End l off) (· = endN l off l.length) := by
  refine (end_sp l off hl (by rw [h.1]; exact Nat.le_refl _) fun k hk => by have := h.2 k hk; unfold rgtP at this; exact this).mono fun r hr => ?_
  obtain ⟨h1, h2, h3⟩ := hr
  have key : ∀ m : Nat, (∀ k, inN k m → atD off k + (atD l k).Size ≤ endN l off m) ∧ 0 ≤ endN l off m ∧ (endN l off m = 0 ∨ ∃ k, inN k m ∧ endN l off m = atD off k + (atD l k).Size) := by
    intro m
    induction m with
    | zero => exact ⟨fun k hk => by have := hk.1; have := hk.2; omega, Int.le_refl _, .inl rfl⟩
    | succ m ih =>
      obtain ⟨i1, i2, i3⟩ := ih
      unfold endN
      refine ⟨fun k hk => ?_, by omega, ?_⟩
      · by_cases hkm : k = m
        · rw [hkm]; omega
        · have := i1 k ⟨hk.1, by have := hk.2; omega⟩; omega
      · rcases Int.le_total (endN l off m) (atD off m + (atD l m).Size) with q | q
        · exact .inr ⟨m, ⟨by omega, by omega⟩, by omega⟩
        · rcases i3 with e | ⟨k, e1, e2⟩
          · exact .inl (by omega)
          · exact .inr ⟨k, ⟨e1.1, by have := e1.2; omega⟩, by omega⟩
  obtain ⟨k1, k2, k3⟩ := key l.length
  have a1 : r ≤ endN l off l.length := by
    rcases h3 with q | ⟨k, q1, q2⟩
    · omega
    · have := k1 k q1; omega
  have a2 : endN l off l.length ≤ r := by
    rcases k3 with q | ⟨k, q1, q2⟩
    · omega
    · have := h2 k q1; omega
  omega
theorem pfinishG_sp (hi : inN i p.Funcs.length) (hL : (atD p.Funcs i).Slots = l) (ha : WP (pack_Args p i) (· = args)) (h0 : 0 ≤ args) (h1 : args ≤ 2147483647) (hl : l.length ≤ 1000000) (hal : powB al = true) : WP (pack_Finish p i al off) fun r => (okOff l off → r = finOut args l off al) ∧ (¬ okOff l off → r = (⟨0, 0, []⟩, 13)) := by
  unfold pack_Finish
  refine WP.chk hi fun _ => ?_
  rw [hL]
  refine WP.bif (fun wh => ?_) (fun wh => ?_)
  · rw [Bool.not_eq_true', decide_eq_false_iff_not] at wh
    exact WP.ret ⟨fun q => (wh (by rw [q.1])).elim, fun _ => rfl⟩
  rw [Bool.not_eq_false', decide_eq_true_eq] at wh
  have hlen : off.length = l.length := by omega
  refine WP.loop (fun j => (0 ≤ j ∧ j ≤ l.length) ∧ ∀ k, 0 ≤ k → k < j → rgtP ⟨atD off k, (atD l k).Size⟩) (fun j => l.length - j.toNat) ⟨⟨by omega, by omega⟩, fun k q1 q2 => by exfalso; omega⟩ ?_
  rintro again k ⟨⟨a1, a2⟩, a3⟩ ih
  refine WP.bif (fun wh => ?_) (fun wh => ?_) <;> (try simp only [decide_eq_true_eq, decide_eq_false_iff_not, Bool.not_eq_true', Bool.not_eq_false', Bool.and_eq_true, Bool.or_eq_true, Bool.not_eq_true, Bool.not_eq_false, Int.not_lt, Int.not_le, ne_eq] at wh)
  · have hkl := wh
    refine WP.chk ⟨by omega, by omega⟩ fun _ => ?_
    refine WP.chk ⟨by omega, by omega⟩ fun _ => ?_
    refine WP.call (insideG_sp _) fun b hb => ?_
    refine WP.bif (fun wh => ?_) (fun wh => ?_)
    · exact WP.ret ⟨fun q => (by rw [hb.2 (q.2 k ⟨a1, hkl⟩)] at wh; cases wh), fun _ => rfl⟩
    refine WP.chk ⟨by omega, by omega⟩ fun _ => ?_
    refine ih _ ⟨⟨by omega, by omega⟩, fun t q1 q2 => ?_⟩ (by omega)
    by_cases ht : t = k
    · rw [ht]; exact hb.1 (by simpa using wh)
    · exact a3 t q1 (by omega)
  · have hok : okOff l off := ⟨hlen, fun k hk => a3 k hk.1 (by have := hk.2; omega)⟩
    have hE := endN_bd (l := l) (off := off) (m := l.length) hok.2
    refine WP.call ha ?_
    intro x hx
    rw [hx]
    clear hx x
    refine WP.call (clone_sp off (by omega)) ?_
    intro x hx
    rw [hx]
    clear hx x
    refine WP.call (cend23_sp hl hok) ?_
    intro x hx
    rw [hx]
    clear hx x
    have e : max (max args 0) (endN l off l.length) = max args (endN l off l.length) := by omega
    rw [e]
    refine WP.call (sized_sp _ _ (by omega) (by omega) hal) fun x6 hx6 => ?_
    exact WP.ret ⟨fun _ => by rw [← show x6 = (x6.1, x6.2) from rfl, hx6]; rfl, fun q => (q hok).elim⟩
/-- Which bytes are taken. -/
def TakenP (l : List ASlot) (off : List Int) (z : Int) (T : List Bool) : Prop := (T.length : Int) = z ∧ ∀ b, 0 ≤ b → b < z → (atD T b = true ↔ ∃ k, 0 ≤ k ∧ k < (l.length : Int) ∧ atD off k ≤ b ∧ b < atD off k + (atD l k).Size)
theorem TakenP.uniq {z : Int} {T T' : List Bool} (h : TakenP l off z T) (h' : TakenP l off z T') : T = T' := by
  refine atD_ext (by have := h.1; have := h'.1; omega) fun k hk => ?_
  obtain ⟨k1, k2⟩ := hk
  rw [Bool.eq_iff_iff, h.2 k k1 (by rw [← h.1]; exact k2), h'.2 k k1 (by rw [← h.1]; exact k2)]
/-- The bytes that are not taken among n from a on. -/
def freeN (T : List Bool) (a : Int) : Nat → Int
  | 0 => 0
  | n + 1 => freeN T a n + (if atD T (a + n) = true then 0 else 1)
theorem freeN_bd (T : List Bool) (a : Int) : ∀ n, 0 ≤ freeN T a n ∧ freeN T a n ≤ n
  | 0 => by simp [freeN]
  | n + 1 => by
    have := freeN_bd T a n
    unfold freeN
    split <;> omega
variable {z : Int}
theorem padG_sp (hi : inN i p.Funcs.length) (f2 : (atD p.Funcs i).Slots = l) (h0 : 0 ≤ args) (hz : args ≤ z) (hlen : off.length = l.length) (hl : l.length ≤ 1000)
    (hof : ∀ k, inN k l.length → 0 ≤ atD off k ∧ 0 ≤ (atD l k).Size ∧ atD off k + (atD l k).Size ≤ z) :
    WP (pack_Padding p i ⟨args, z, off⟩) fun r => (1048576 < z → r = 0) ∧ (z ≤ 1048576 → ∃ T, TakenP l off z T ∧ r = freeN T args (z - args).toNat) := by
  unfold pack_Padding
  dsimp only
  refine WP.bif (fun wh => ?_) fun _ => ?_
  · exfalso; rw [decide_eq_true_eq] at wh; omega
  refine WP.bif (fun wh => ?_) fun wh => ?_
  · rw [decide_eq_true_eq] at wh
    exact WP.ret ⟨fun _ => rfl, fun q => by omega⟩
  rw [decide_eq_false_iff_not] at wh
  have hz2 : z ≤ 1048576 := by omega
  refine WP.mono (Q := fun r => ∃ T, TakenP l off z T ∧ r = freeN T args (z - args).toNat) ?_ fun r hr => ⟨fun q => by omega, fun _ => hr⟩
  refine WP.chk ⟨by omega, by omega⟩ fun _ => ?_
  refine WP.chk hi fun _ => ?_
  rw [f2]
  refine WP.loop (fun j => (0 ≤ j.1 ∧ j.1 ≤ l.length) ∧ (j.2.length : Int) = z ∧ ∀ b, 0 ≤ b → b < z → (atD j.2 b = true ↔ ∃ k, 0 ≤ k ∧ k < j.1 ∧ atD off k ≤ b ∧ b < atD off k + (atD l k).Size)) (fun j => l.length - j.1.toNat) ⟨⟨by simp, by simp⟩, by dsimp only; rw [length_repD]; omega, fun b h1 h2 => ?_⟩ ?_
  · dsimp only
    rw [repD_false]
    refine ⟨fun q => (by cases q), ?_⟩
    rintro ⟨k, q1, q2, _⟩
    exfalso; omega
  rintro again1 ⟨k, tk⟩ ⟨⟨a1, a2⟩, a3, a4⟩ ih1
  dsimp only at a1 a2 a3 a4 ih1 ⊢
  refine WP.bif (fun wh => ?_) (fun wh => ?_) <;> (try simp only [decide_eq_true_eq, decide_eq_false_iff_not, Bool.not_eq_true', Bool.not_eq_false', Bool.and_eq_true, Bool.or_eq_true, Bool.not_eq_true, Bool.not_eq_false, Int.not_lt, Int.not_le, ne_eq] at wh)
  · have hkl := wh
    obtain ⟨o1, o2, o3⟩ := hof k ⟨a1, wh⟩
    refine WP.chk ⟨by omega, by omega⟩ fun _ => ?_
    refine WP.chk ⟨by omega, by omega⟩ fun _ => ?_
    refine WP.loop (fun j => (atD off k ≤ j.1 ∧ j.1 ≤ atD off k + (atD l k).Size) ∧ (j.2.length : Int) = z ∧ ∀ b, 0 ≤ b → b < z → (atD j.2 b = true ↔ (∃ t, 0 ≤ t ∧ t < k ∧ atD off t ≤ b ∧ b < atD off t + (atD l t).Size) ∨ (atD off k ≤ b ∧ b < j.1))) (fun j => (atD off k + (atD l k).Size - j.1).toNat) ⟨⟨by simp, by dsimp only; omega⟩, a3, fun b h1 h2 => ?_⟩ ?_
    · dsimp only
      rw [a4 b h1 h2]
      refine ⟨.inl, fun q => q.resolve_right fun q2 => by omega⟩
    rintro again2 ⟨b, t2⟩ ⟨⟨b1, b2⟩, b3, b4⟩ ih2
    dsimp only at b1 b2 b3 b4 ih2 ⊢
    refine WP.chk ⟨by omega, by omega⟩ fun _ => ?_
    refine WP.chk ⟨by omega, by omega⟩ fun _ => ?_
    refine WP.bif (fun wh => ?_) (fun wh => ?_) <;> (try simp only [decide_eq_true_eq, decide_eq_false_iff_not, Bool.not_eq_true', Bool.not_eq_false', Bool.and_eq_true, Bool.or_eq_true, Bool.not_eq_true, Bool.not_eq_false, Int.not_lt, Int.not_le, ne_eq] at wh)
    · have hbl := wh
      refine WP.chk ⟨by omega, by omega⟩ fun _ => ?_
      refine WP.chk ⟨by omega, by omega⟩ fun _ => ?_
      refine ih2 _ ⟨⟨by dsimp only; omega, by dsimp only; omega⟩, by dsimp only; rw [length_setD, b3], fun c h1 h2 => ?_⟩ (by dsimp only; omega)
      dsimp only
      rw [atD_setD ⟨by omega, by omega⟩ h1]
      split
      · rename_i q; subst q
        exact ⟨fun _ => .inr ⟨by omega, by omega⟩, fun _ => rfl⟩
      · rw [b4 c h1 h2]
        constructor
        · rintro (q | q)
          · exact .inl q
          · exact .inr ⟨q.1, by omega⟩
        · rintro (q | q)
          · exact .inl q
          · exact .inr ⟨q.1, by omega⟩
    · refine WP.chk ⟨by omega, by omega⟩ fun _ => ?_
      refine ih1 _ ⟨⟨by dsimp only; omega, by dsimp only; omega⟩, b3, fun c h1 h2 => ?_⟩ (by dsimp only; omega)
      dsimp only
      rw [b4 c h1 h2]
      constructor
      · rintro (⟨t, q1, q2, q3, q4⟩ | q)
        · exact ⟨t, q1, by omega, q3, q4⟩
        · exact ⟨k, a1, by omega, q.1, by omega⟩
      · rintro ⟨t, q1, q2, q3, q4⟩
        by_cases ht : t = k
        · subst ht; exact .inr ⟨q3, by omega⟩
        · exact .inl ⟨t, q1, by omega, q3, q4⟩
  · have hk : k = l.length := by omega
    subst hk
    refine WP.loop (fun j => ∃ m : Nat, j.2 = args + m ∧ j.2 ≤ z ∧ j.1 = freeN tk args m) (fun j => (z - j.2).toNat) ⟨0, by simp, hz, rfl⟩ ?_
    rintro again3 ⟨n, b⟩ ⟨m, b1, b2, b3⟩ ih3
    dsimp only at b1 b2 b3 ih3 ⊢
    have hbd := freeN_bd tk args m
    subst b1 b3
    refine WP.bif (fun wh => ?_) (fun wh => ?_) <;> (try simp only [decide_eq_true_eq, decide_eq_false_iff_not, Bool.not_eq_true', Bool.not_eq_false', Bool.and_eq_true, Bool.or_eq_true, Bool.not_eq_true, Bool.not_eq_false, Int.not_lt, Int.not_le, ne_eq] at wh)
    · have hbl := wh
      refine WP.chk ⟨by omega, by omega⟩ fun _ => ?_
      refine WP.bif (fun wh => ?_) (fun wh => ?_)
      · rw [Bool.not_eq_true'] at wh
        refine WP.chk ⟨by omega, by omega⟩ fun _ => ?_
        refine WP.chk ⟨by omega, by omega⟩ fun _ => ?_
        exact ih3 _ ⟨m + 1, by dsimp only; omega, by dsimp only; omega, by simp [freeN, wh]⟩ (by dsimp only; omega)
      · rw [Bool.not_eq_false'] at wh
        refine WP.chk ⟨by omega, by omega⟩ fun _ => ?_
        exact ih3 _ ⟨m + 1, by dsimp only; omega, by dsimp only; omega, by simp [freeN, wh]⟩ (by dsimp only; omega)
    · exact WP.ret ⟨tk, ⟨a3, a4⟩, by rw [show (z - args).toNat = m by omega]⟩
theorem rpadG_sp (hi : inN i p.Funcs.length) (f2 : (atD p.Funcs i).Slots = l) (h0 : 0 ≤ args) (hz : args ≤ z) (hlen : off.length = l.length) (hl : l.length ≤ 1000)
    (hof : ∀ k, inN k l.length → 0 ≤ atD off k ∧ 0 ≤ (atD l k).Size ∧ atD off k + (atD l k).Size ≤ z) :
    WP (r24_Padding p i ⟨args, z, off⟩) fun r => (1048576 < z → r = 0) ∧ (z ≤ 1048576 → ∃ T, TakenP l off z T ∧ r = freeN T args (z - args).toNat) := by
  unfold r24_Padding
  dsimp only
  refine WP.bif (fun wh => ?_) fun _ => ?_
  · exfalso; rw [decide_eq_true_eq] at wh; omega
  refine WP.bif (fun wh => ?_) fun wh => ?_
  · rw [decide_eq_true_eq] at wh
    exact WP.ret ⟨fun _ => rfl, fun q => by omega⟩
  rw [decide_eq_false_iff_not] at wh
  have hz2 : z ≤ 1048576 := by omega
  refine WP.mono (Q := fun r => ∃ T, TakenP l off z T ∧ r = freeN T args (z - args).toNat) ?_ fun r hr => ⟨fun q => by omega, fun _ => hr⟩
  refine WP.chk hi fun _ => ?_
  refine WP.chk ⟨by omega, by omega⟩ fun _ => ?_
  rw [f2]
  refine WP.join (TakenP l off z) ?_ ?_
  · intro tk htk
    rw [show max args 0 = args by omega]
    refine WP.loop (fun j => ∃ m : Nat, j.2 = args + m ∧ j.2 ≤ z ∧ j.1 = freeN tk args m) (fun j => (z - j.2).toNat) ⟨0, by simp, hz, rfl⟩ ?_
    rintro again3 ⟨n, b⟩ ⟨m, b1, b2, b3⟩ ih3
    dsimp only at b1 b2 b3 ih3 ⊢
    have hbd := freeN_bd tk args m
    have htl := htk.1
    subst b1 b3
    refine WP.bif (fun wh => ?_) (fun wh => ?_) <;> (try simp only [decide_eq_true_eq, decide_eq_false_iff_not, Bool.not_eq_true', Bool.not_eq_false', Bool.and_eq_true, Bool.or_eq_true, Bool.not_eq_true, Bool.not_eq_false, Int.not_lt, Int.not_le, ne_eq] at wh)
    · have hbl := wh
      refine WP.chk ⟨by omega, by omega⟩ fun _ => ?_
      refine WP.bif (fun wh => ?_) (fun wh => ?_)
      · rw [Bool.not_eq_true'] at wh
        refine WP.chk ⟨by omega, by omega⟩ fun _ => ?_
        refine WP.chk ⟨by omega, by omega⟩ fun _ => ?_
        exact ih3 _ ⟨m + 1, by dsimp only; omega, by dsimp only; omega, by simp [freeN, wh]⟩ (by dsimp only; omega)
      · rw [Bool.not_eq_false'] at wh
        refine WP.chk ⟨by omega, by omega⟩ fun _ => ?_
        exact ih3 _ ⟨m + 1, by dsimp only; omega, by dsimp only; omega, by simp [freeN, wh]⟩ (by dsimp only; omega)
    · exact WP.ret ⟨tk, htk, by rw [show (z - args).toNat = m by omega]⟩
  intro k1 hk1
  refine WP.loop (fun j => (0 ≤ j.1 ∧ j.1 ≤ l.length) ∧ (j.2.length : Int) = z ∧ ∀ b, 0 ≤ b → b < z → (atD j.2 b = true ↔ ∃ k, 0 ≤ k ∧ k < j.1 ∧ atD off k ≤ b ∧ b < atD off k + (atD l k).Size)) (fun j => l.length - j.1.toNat) ⟨⟨by simp, by simp⟩, by dsimp only; rw [length_repD]; omega, fun b h1 h2 => ?_⟩ ?_
  · dsimp only
    rw [repD_false]
    refine ⟨fun q => (by cases q), ?_⟩
    rintro ⟨k, q1, q2, _⟩
    exfalso; omega
  rintro again1 ⟨k, tk⟩ ⟨⟨a1, a2⟩, a3, a4⟩ ih1
  dsimp only at a1 a2 a3 a4 ih1 ⊢
  have hfin : ¬ (k < (l.length : Int)) → WP (k1 tk) fun r => ∃ T, TakenP l off z T ∧ r = freeN T args (z - args).toNat := fun hk => by
    have hk : k = l.length := by omega
    subst hk
    exact hk1 _ ⟨a3, a4⟩
  refine WP.bif (fun wh => ?_) (fun wh => hfin (by simpa using wh)) <;> (try simp only [decide_eq_true_eq, decide_eq_false_iff_not, Bool.not_eq_true', Bool.not_eq_false', Bool.and_eq_true, Bool.or_eq_true, Bool.not_eq_true, Bool.not_eq_false, Int.not_lt, Int.not_le, ne_eq] at wh)
  have hkl := wh
  refine WP.bif (fun wh => ?_) (fun wh => by exfalso; simp only [decide_eq_false_iff_not] at wh; omega)
  obtain ⟨o1, o2, o3⟩ := hof k ⟨a1, hkl⟩
  refine WP.loop (fun j => (0 ≤ j.1 ∧ j.1 ≤ (atD l k).Size) ∧ (j.2.length : Int) = z ∧ ∀ b, 0 ≤ b → b < z → (atD j.2 b = true ↔ (∃ t, 0 ≤ t ∧ t < k ∧ atD off t ≤ b ∧ b < atD off t + (atD l t).Size) ∨ (atD off k ≤ b ∧ b < atD off k + j.1))) (fun j => ((atD l k).Size - j.1).toNat) ⟨⟨by simp, by dsimp only; omega⟩, a3, fun b h1 h2 => ?_⟩ ?_
  · dsimp only
    rw [a4 b h1 h2]
    refine ⟨.inl, fun q => q.resolve_right fun q2 => by omega⟩
  rintro again2 ⟨b, t2⟩ ⟨⟨b1, b2⟩, b3, b4⟩ ih2
  dsimp only at b1 b2 b3 b4 ih2 ⊢
  refine WP.chk ⟨by omega, by omega⟩ fun _ => ?_
  refine WP.bif (fun wh => ?_) (fun wh => ?_) <;> (try simp only [decide_eq_true_eq, decide_eq_false_iff_not, Bool.not_eq_true', Bool.not_eq_false', Bool.and_eq_true, Bool.or_eq_true, Bool.not_eq_true, Bool.not_eq_false, Int.not_lt, Int.not_le, ne_eq] at wh)
  · have hbl := wh
    refine WP.chk ⟨by omega, by omega⟩ fun _ => ?_
    refine WP.chk ⟨by omega, by omega⟩ fun _ => ?_
    refine WP.bif (fun _ => ?_) (fun wh => by exfalso; simp only [decide_eq_false_iff_not] at wh; omega)
    refine WP.bif (fun _ => ?_) (fun wh => by exfalso; simp only [decide_eq_false_iff_not] at wh; omega)
    refine WP.chk ⟨by omega, by omega⟩ fun _ => ?_
    refine WP.chk ⟨by omega, by omega⟩ fun _ => ?_
    refine ih2 _ ⟨⟨by dsimp only; omega, by dsimp only; omega⟩, by dsimp only; rw [length_setD, b3], fun c h1 h2 => ?_⟩ (by dsimp only; omega)
    dsimp only
    rw [atD_setD ⟨by omega, by omega⟩ h1]
    split
    · rename_i q; subst q
      exact ⟨fun _ => .inr ⟨by omega, by omega⟩, fun _ => rfl⟩
    · rw [b4 c h1 h2]
      constructor
      · rintro (q | q)
        · exact .inl q
        · exact .inr ⟨q.1, by omega⟩
      · rintro (q | q)
        · exact .inl q
        · exact .inr ⟨q.1, by omega⟩
  · refine WP.chk ⟨by omega, by omega⟩ fun _ => ?_
    have hbs : b = (atD l k).Size := by omega
    subst hbs
    refine ih1 _ ⟨⟨by dsimp only; omega, by dsimp only; omega⟩, b3, fun c h1 h2 => ?_⟩ (by dsimp only; omega)
    dsimp only
    rw [b4 c h1 h2]
    constructor
    · rintro (⟨t, q1, q2, q3, q4⟩ | q)
      · exact ⟨t, q1, by omega, q3, q4⟩
      · exact ⟨k, a1, by omega, q.1, by omega⟩
    · rintro ⟨t, q1, q2, q3, q4⟩
      by_cases ht : t = k
      · subst ht; exact .inr ⟨q3, by omega⟩
      · exact .inl ⟨t, q1, by omega, q3, q4⟩
theorem endN_ge (h : okOff l off) : ∀ k, inN k l.length → atD off k + (atD l k).Size ≤ endN l off l.length := by
  have key : ∀ m : Nat, ∀ k, inN k m → atD off k + (atD l k).Size ≤ endN l off m := by
    intro m
    induction m with
    | zero => exact fun k hk => by have := hk.1; have := hk.2; omega
    | succ m ih =>
      intro k hk
      unfold endN
      by_cases hkm : k = m
      · rw [hkm]; omega
      · have := ih k ⟨hk.1, by have := hk.2; omega⟩; omega
  exact key _
end
theorem pl_PackFinish (cs raw : List Int) (h : isU8 cs) (_ : ∀ z ∈ raw, -9223372036854775808 ≤ z ∧ z ≤ 9223372036854775807) : WP (law24_PackFinish cs raw) (· = true) := by
  unfold law24_PackFinish
  refine WP.call awake24_sp ?_
  rintro _ rfl
  refine WP.bif (fun wh => by cases wh) fun _ => ?_
  refine WP.bif (fun wh => WP.ret wh) fun wh => ?_
  rw [decide_eq_false_iff_not] at wh
  refine WP.call (scene24_sp cs h) fun x2 ⟨hp, _, hi, hal, hc⟩ => ?_
  obtain ⟨hp1, hp2, hp3⟩ := alP_pow hp hal
  have hA := argsN_R hp hi (l := (atD x2.1.Funcs x2.2.1).Code) fun x hx => hx
  have hsl := hp.slotsR (atD_mem hi)
  refine WP.call (layout_sp hp hi hp1 _ hc) fun x3 ⟨c1, c2⟩ => ?_
  generalize hL : ([raw, x3.1.Off, ([] : List Int)] : List (List Int)) = L
  have hlen : L.length = 3 := by rw [← hL]; rfl
  clear hL
  have hPA := args24_sp _ _ hp hi
  have hRA := rargs24_sp _ _ hp hi
  refine WP.loop (fun j => 0 ≤ j ∧ j ≤ 3) (fun j => 3 - j.toNat) ⟨by omega, by omega⟩ ?_
  rintro again k ⟨a1, a2⟩ ih
  refine WP.bif (fun wh => ?_) (fun _ => WP.ret rfl) <;> (try simp only [decide_eq_true_eq, decide_eq_false_iff_not, Bool.not_eq_true', Bool.not_eq_false', Bool.and_eq_true, Bool.or_eq_true, Bool.not_eq_true, Bool.not_eq_false, Int.not_lt, Int.not_le, ne_eq] at wh)
  refine WP.chk ⟨by omega, by omega⟩ fun _ => ?_
  generalize atD L k = off at *
  have hgo : WP (M.chk (okI (k + 1)) (again (k + 1))) (· = true) := WP.chk ⟨by omega, by omega⟩ fun _ => ih _ ⟨by omega, by omega⟩ (by omega)
  refine WP.call (pfinishG_sp hi rfl hPA (by omega) (by omega) (by omega) hp1) fun x5 ⟨g1, g2⟩ => ?_
  refine WP.call (rfinishG_sp hi rfl hRA (by omega) (by omega) (by omega) hp1) fun x6 ⟨g3, g4⟩ => ?_
  have e : x6 = x5 := by
    by_cases hv : okOff (atD x2.1.Funcs x2.2.1).Slots off
    · rw [g1 hv, g3 hv]
    · rw [g2 hv, g4 hv]
  subst e
  refine WP.bif (fun wh => by simp at wh) fun _ => ?_
  by_cases hok : okOff (atD x2.1.Funcs x2.2.1).Slots off
  · have e := g1 hok
    have hge := endN_ge hok
    unfold finOut at e
    have hzl := upZ_le (n := max (16 * argsN x2.1 (atD x2.1.Funcs x2.2.1).Code) (endN (atD x2.1.Funcs x2.2.1).Slots off (atD x2.1.Funcs x2.2.1).Slots.length)) (powB_bd hp1).1
    generalize upZ (max (16 * argsN x2.1 (atD x2.1.Funcs x2.2.1).Code) (endN (atD x2.1.Funcs x2.2.1).Slots off (atD x2.1.Funcs x2.2.1).Slots.length)) x2.2.2.1 = z at *
    split at e
    · subst e
      refine WP.call (same24_sp _ (by simp)) ?_
      rintro _ rfl
      refine WP.bif (fun wh => by cases wh) fun _ => ?_
      exact WP.bif (fun wh => by simp at wh) fun _ => hgo
    · subst e
      have hol := hok.1
      refine WP.call (same24_sp _ (by dsimp only; omega)) ?_
      rintro _ rfl
      refine WP.bif (fun wh => by cases wh) fun _ => ?_
      refine WP.bif (fun _ => ?_) fun _ => hgo
      have hof : ∀ k, inN k (atD x2.1.Funcs x2.2.1).Slots.length → 0 ≤ atD off k ∧ 0 ≤ (atD (atD x2.1.Funcs x2.2.1).Slots k).Size ∧ atD off k + (atD (atD x2.1.Funcs x2.2.1).Slots k).Size ≤ z := fun k hk => by
        have := hok.2 k hk
        have := hge k hk
        unfold rgtP at *
        dsimp only at *
        omega
      refine WP.call (padG_sp hi rfl (by omega) (by omega) hol (by omega) hof) fun x8 ⟨p1, p2⟩ => ?_
      refine WP.call (rpadG_sp hi rfl (by omega) (by omega) hol (by omega) hof) fun x9 ⟨q1, q2⟩ => ?_
      have e : x8 = x9 := by
        by_cases hz : 1048576 < z
        · rw [p1 hz, q1 hz]
        · obtain ⟨T, t1, t2⟩ := p2 (by omega)
          obtain ⟨T', t3, t4⟩ := q2 (by omega)
          rw [t2, t4, t1.uniq t3]
      subst e
      exact WP.bif (fun wh => by simp at wh) fun _ => hgo
  · have e := g2 hok
    subst e
    refine WP.call (same24_sp _ (by simp)) ?_
    rintro _ rfl
    refine WP.bif (fun wh => by cases wh) fun _ => ?_
    exact WP.bif (fun wh => by simp at wh) fun _ => hgo
end Go.Proofs.Ytbppgdffochdmaa.Q
