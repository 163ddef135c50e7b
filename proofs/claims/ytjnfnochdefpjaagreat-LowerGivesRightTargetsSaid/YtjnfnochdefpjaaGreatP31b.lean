/- Proposals: what Propose gives. -/
import Derived.Test.YtjnfnochdefpjaaGreatP31
import Derived.Test.YtjnfnochdefpjaaGreatP20
import Derived.Test.YtjnfnochdefpjaaGreatP23
import Derived.Test.YtjnfnochdefpjaaGreatP24b
set_option linter.unusedVariables false
set_option linter.unusedSimpArgs false
namespace Go.Proofs.YtjnfnochdefpjaaGreat.Q
theorem keepL_ok {n i par : Int} {f : AFunc} (hf : WfF n i par f) (out : List (List Int)) (to : List Int) : KeepP f (keepL f out to f.Code.length) := by
  refine ⟨by simp [keepL], fun k hk h => ?_⟩
  rw [keepL_at hk] at h
  unfold keepB deadB at h
  cases hr : remB (atD f.Code k) with
  | true => rfl
  | false =>
    exfalso
    rw [hr] at h
    unfold remB at hr
    simp at h hr
    exact hr.2 h.1
theorem WfP.replace {p : AProgram} (hp : WfP p) {i : Int} (hi : inN i p.Funcs.length) {h : AFunc} (hh : WfF p.Funcs.length i (atD p.Funcs i).Params h) : WfP ⟨setD p.Funcs i h⟩ := by
  have hat : ∀ j, 0 ≤ j → atD (setD p.Funcs i h) j = if j = i then h else atD p.Funcs j := fun j hj => atD_setD hi hj
  have hpar : ∀ j, 0 ≤ j → (atD (setD p.Funcs i h) j).Params = (atD p.Funcs j).Params := fun j hj => by
    rw [hat j hj]
    split
    · rename_i e; rw [e, hh.parq]
    · rfl
  refine ⟨by dsimp only; rw [length_setD]; exact hp.len, ?_, fun f hf => ?_, fun j h1 h2 => ?_⟩
  · dsimp only; rw [hpar 0 (Int.le_refl _)]; exact hp.entry
  · obtain ⟨j, h1, h2, rfl⟩ := mem_atD hf
    dsimp only at h2
    rw [length_setD] at h2
    rw [hpar j h1]
    exact hp.par _ (atD_mem ⟨h1, h2⟩)
  · dsimp only at h2 ⊢
    rw [length_setD] at h2 ⊢
    rw [hpar j h1, hat j h1]
    split
    · rename_i e; subst e; exact hh
    · exact hp.func j h1 h2
/-- The greatest end among the first m ranges. -/
def endN (l : List ASlot) (off : List Int) : Nat → Int
  | 0 => 0
  | m + 1 => max (endN l off m) (atD off m + (atD l m).Size)
theorem endN_bd {l : List ASlot} {off : List Int} : ∀ {m : Nat}, (∀ k, inN k m → rgtP ⟨atD off k, (atD l k).Size⟩) → 0 ≤ endN l off m ∧ endN l off m ≤ 2147483647
  | 0, _ => by simp [endN]
  | m + 1, h => by
    have h1 := endN_bd (m := m) fun k hk => h k ⟨hk.1, by have := hk.2; omega⟩
    have h2 := h m ⟨by omega, by omega⟩
    unfold rgtP at h2
    dsimp only at h2
    unfold endN
    omega
def okOff (l : List ASlot) (off : List Int) : Prop := off.length = l.length ∧ ∀ k, inN k l.length → rgtP ⟨atD off k, (atD l k).Size⟩
def finOut (args : Int) (l : List ASlot) (off : List Int) (al : Int) : ALayout × Int := if 2147483519 < upZ (max args (endN l off l.length)) al then (⟨0, 0, []⟩, 9) else (⟨args, upZ (max args (endN l off l.length)) al, off⟩, 0)
section
variable {p : AProgram} {i al args : Int} {l : List ASlot} {off : List Int}
theorem rend23_sp (hl : l.length ≤ 1000000) (h : okOff l off) : WP (r23_End l off) (· = endN l off l.length) := by
  unfold r23_End
  obtain ⟨h1, h2⟩ := h
  refine WP.loop (fun j => ∃ m : Nat, m ≤ l.length ∧ j.2 = m ∧ j.1 = endN l off m) (fun j => l.length - j.2.toNat) ⟨0, by omega, rfl, rfl⟩ ?_
  rintro again ⟨n, k⟩ ⟨m, q1, q2, q3⟩ ih
  dsimp only at q2 q3 ih ⊢
  subst q2 q3
  refine WP.bif (fun wh => ?_) (fun wh => ?_) <;> (try simp only [wpH, ne_eq] at wh)
  · have hml := wh
    have hr := h2 m ⟨by omega, wh⟩
    unfold rgtP at hr
    dsimp only at hr
    refine WP.bif (fun _ => ?_) (fun wh => by exfalso; simp only [decide_eq_false_iff_not] at wh; omega)
    refine WP.chk ⟨by omega, by omega⟩ fun _ => ?_
    refine WP.chk ⟨by omega, by omega⟩ fun _ => ?_
    refine WP.chk ⟨by omega, by omega⟩ fun _ => ?_
    refine WP.chk ⟨by omega, by omega⟩ fun _ => ?_
    exact ih _ ⟨m + 1, by omega, by simp, rfl⟩ (by dsimp only; omega)
  · exact WP.ret (by rw [show m = l.length by omega])
theorem rfinishG_sp (hi : inN i p.Funcs.length) (hL : (atD p.Funcs i).Slots = l) (ha : WP (r24_Args p i) (· = args)) (h0 : 0 ≤ args) (h1 : args ≤ 2147483647) (hl : l.length ≤ 1000000) (hal : powB al = true) : WP (r24_Finish p i al off) fun r => (okOff l off → r = finOut args l off al) ∧ (¬ okOff l off → r = (⟨0, 0, []⟩, 13)) := by
  unfold r24_Finish
  refine WP.chk hi fun _ => ?_
  rw [hL]
  refine WP.bif (fun wh => ?_) (fun wh => ?_)
  · rw [Bool.not_eq_true', decide_eq_false_iff_not] at wh
    exact WP.ret ⟨fun q => (wh (by rw [q.1])).elim, fun _ => rfl⟩
  rw [Bool.not_eq_false', decide_eq_true_eq] at wh
  have hlen : off.length = l.length := by omega
  refine WP.loop (fun j => (0 ≤ j ∧ j ≤ l.length) ∧ ∀ k, 0 ≤ k → k < j → rgtP ⟨atD off k, (atD l k).Size⟩) (fun j => l.length - j.toNat) ⟨⟨by omega, by omega⟩, fun k q1 q2 => by exfalso; omega⟩ ?_
  rintro again k ⟨⟨a1, a2⟩, a3⟩ ih
  refine WP.bif (fun wh => ?_) (fun wh => ?_) <;> (try simp only [wpH, ne_eq] at wh)
  · have hkl := wh
    refine WP.chk ⟨by omega, by omega⟩ fun _ => ?_
    refine WP.chk ⟨by omega, by omega⟩ fun _ => ?_
    refine WP.call (rrightG_sp _) fun b hb => ?_
    refine WP.bif (fun wh => ?_) (fun wh => ?_)
    · exact WP.ret ⟨fun q => (by rw [hb.2 (q.2 k ⟨a1, hkl⟩)] at wh; cases wh), fun _ => rfl⟩
    refine WP.chk ⟨by omega, by omega⟩ fun _ => ?_
    refine ih _ ⟨⟨by omega, by omega⟩, fun t q1 q2 => ?_⟩ (by omega)
    by_cases ht : t = k
    · rw [ht]; exact hb.1 (by simpa using wh)
    · exact a3 t q1 (by omega)
  · have hok : okOff l off := ⟨hlen, fun k hk => a3 k hk.1 (by have := hk.2; omega)⟩
    have hE := endN_bd (l := l) (off := off) (m := l.length) hok.2
    refine WP.call ha ?_
    intro x hx
    rw [hx]
    clear hx x
    refine WP.call (rend23_sp hl hok) ?_
    rintro _ rfl
    refine WP.call (rUp_sp _ _) ?_
    rintro _ rfl
    unfold upQ finOut
    rw [(boundB_iff _).2 ⟨by omega, by omega⟩, hal]
    simp only [Bool.and_self, if_true]
    generalize upZ (max args (endN l off l.length)) al = z at *
    by_cases hz : 2147483647 < z
    · rw [if_pos hz]
      refine WP.bif (fun _ => WP.ret ⟨fun _ => by rw [if_pos (by omega)], fun q => (q hok).elim⟩) (fun wh => by simp at wh)
    · rw [if_neg hz]
      refine WP.bif (fun wh => by simp at wh) (fun _ => ?_)
      refine WP.bif (fun wh => ?_) (fun wh => ?_)
      · rw [decide_eq_true_eq] at wh
        exact WP.ret ⟨fun _ => by rw [if_pos wh], fun q => (q hok).elim⟩
      · rw [decide_eq_false_iff_not] at wh
        refine WP.chk (by omega) fun _ => ?_
        exact WP.ret ⟨fun _ => by rw [if_neg wh], fun q => (q hok).elim⟩
end
/-- A layout with small numbers. -/
def layR (y : ALayout) : Prop := (0 ≤ y.Args ∧ y.Args ≤ 128) ∧ (0 ≤ y.Size ∧ y.Size ≤ 2147483647) ∧ y.Off.length ≤ 6 ∧ ∀ k, inN k y.Off.length → 0 ≤ atD y.Off k ∧ atD y.Off k ≤ 2147483647
structure PropP (f : AFunc) (x : AProposal) : Prop where
  live : Least f x.Live.Out
  to : ValidP f x.Rename.To
  keep : KeepP f x.Rename.Keep
  lay : layR x.Layout
theorem propose31_sp {p : AProgram} (hp : WfP p) {i : Int} (hi : inN i p.Funcs.length) : WP (r31_Propose p i) (PropP (atD p.Funcs i)) := by
  have hf := hp.func i hi.1 hi.2
  have hz : layR ⟨0, 0, []⟩ := ⟨by simp, by simp, by simp, fun k hk => by have := hk.1; have := hk.2; simp at this; omega⟩
  unfold r31_Propose
  refine WP.chk hi fun _ => ?_
  refine WP.call (solve_sp hf) fun x1 h1 => ?_
  have hA := h1.live.ann
  refine WP.call (Graph18_sp hf h1.live) fun x2 ⟨_, h2⟩ => ?_
  have hgl : ∀ s, inN s x2.1.length → (atD x2.1 s).length ≤ 1000000 := fun s hs => by
    have := (h2.set s (by rw [← h2.len]; exact hs)).1.length
    omega
  refine WP.call (classes19v_sp hf (by rw [h2.len]; omega) hgl) fun x3 h3 => ?_
  refine WP.call (rkeep20_sp hf hA h3.1) ?_
  rintro _ rfl
  have hK := keepL_ok hf x1.Out x3
  refine WP.call (apply21_sp hf ⟨x3, _⟩) fun x5 h5 => ?_
  obtain ⟨h5a, _, _, hh⟩ := h5.resolve_right fun q => q.2.2 ⟨h3, hK⟩
  have hhs := hh.slots
  refine WP.call (solve_sp hh) fun x6 h6 => ?_
  unfold r18_Strict
  refine WP.call (R := fun r => GraphS x5.1.Slots.length r.1 (Edge x5.1 true x6.Out)) ?_ ?_
  · exact WP.call (graph18_sp hh h6.live true) fun x hx => WP.ret hx.2
  intro x7 h7
  refine WP.call (rargs24_sp p i hp hi) ?_
  rintro _ rfl
  have hAr := argsN_R hp hi (l := (atD p.Funcs i).Code) fun x hx => hx
  refine WP.call (assign23_sp _ _ _ (fun s hs => by have := (h7.set s (by rw [← h7.len]; exact hs)).1.length; omega) (by rw [h7.len]; omega)) fun x9 h9 => ?_
  refine WP.bif (fun _ => WP.ret ⟨h1, h3, hK, hz⟩) (fun wh => ?_)
  rw [Bool.not_eq_false', decide_eq_true_eq] at wh
  obtain ⟨h9a, h9b⟩ := h9 wh
  have hp' := hp.replace hi hh
  have hi' : inN i (⟨setD p.Funcs i x5.1⟩ : AProgram).Funcs.length := by dsimp only; rw [length_setD]; exact hi
  have hat : atD (setD p.Funcs i x5.1) i = x5.1 := by rw [atD_setD hi hi.1, if_pos rfl]
  unfold r31_Only r21_Replace
  have hpl := hp.len
  refine WP.call (R := (· = ⟨setD p.Funcs i x5.1⟩)) ?_ ?_
  · refine WP.call (R := (· = ⟨setD p.Funcs i x5.1⟩)) ?_ ?_
    · refine WP.chk (by omega) fun _ => ?_
      exact WP.chk hi fun _ => WP.ret rfl
    · rintro _ rfl
      exact WP.ret rfl
  rintro _ rfl
  refine WP.call (align5_sp p hp) ?_
  rintro _ rfl
  have hAr2 := argsN_R hp' hi' (l := (atD (⟨setD p.Funcs i x5.1⟩ : AProgram).Funcs i).Code) fun x hx => hx
  have hal := (alP_pow hp (.inl rfl)).1
  have hle := upZ_le (n := max (16 * argsN ⟨setD p.Funcs i x5.1⟩ (atD (⟨setD p.Funcs i x5.1⟩ : AProgram).Funcs i).Code) (endN x5.1.Slots x9.1 x5.1.Slots.length)) (powB_bd hal).1
  refine WP.call (rfinishG_sp (l := x5.1.Slots) (off := x9.1) hi' (by dsimp only; rw [hat]) (rargs24_sp _ i hp' hi') (by omega) (by omega) (by omega) hal) fun x12 ⟨g1, g2⟩ => ?_
  refine WP.ret ⟨h1, h3, hK, ?_⟩
  dsimp only
  by_cases hok : okOff x5.1.Slots x9.1
  · rw [g1 hok]
    unfold finOut
    split
    · exact hz
    · rename_i hns
      dsimp only at hAr2 hle hns ⊢
      exact ⟨by dsimp only; omega, by dsimp only; omega, by dsimp only; omega, fun k hk => h9b k (by rw [← h9a]; exact hk)⟩
  · rw [g2 hok]
    exact hz
end Go.Proofs.YtjnfnochdefpjaaGreat.Q
