/- Frames: where the ranges of the baseline lie; finishing; padding; the laws. -/
import Derived.Test.YtjnfnochdefpjaaGreatP24b
set_option linter.unusedVariables false
set_option linter.unusedSimpArgs false
namespace Go.Proofs.YtjnfnochdefpjaaGreat.Q
section
variable {l : List ASlot} {e : Int}
theorem offL_at (k : Int) (hk : inN k l.length) : atD (offL e l).1 k = upZ (offL e (l.take k.toNat)).2 (atD l k).Align ∧ (offL e (l.take (k + 1).toNat)).2 = atD (offL e l).1 k + (atD l k).Size := by
  obtain ⟨h1, h2⟩ := hk
  have hpre : ∀ (r : List ASlot) (q : List Int × Int), ∃ t, (r.foldl offF q).1 = q.1 ++ t := by
    intro r
    induction r with
    | nil => intro q; exact ⟨[], by simp⟩
    | cons s r ih =>
      intro q
      obtain ⟨t, ht⟩ := ih (offF q s)
      refine ⟨[upZ q.2 s.Align] ++ t, ?_⟩
      rw [List.foldl_cons, ht]
      simp [offF]
  have htk : l.take (k + 1).toNat = l.take k.toNat ++ [atD l k] := take_atD ⟨h1, h2⟩
  have hq : offL e (l.take (k + 1).toNat) = offF (offL e (l.take k.toNat)) (atD l k) := by rw [htk, offL_snoc]
  have hd : offL e l = (l.drop (k + 1).toNat).foldl offF (offL e (l.take (k + 1).toNat)) := by
    unfold offL
    rw [← List.foldl_append, List.take_append_drop]
  obtain ⟨t, ht⟩ := hpre (l.drop (k + 1).toNat) (offL e (l.take (k + 1).toNat))
  have hlen : (offL e (l.take k.toNat)).1.length = k.toNat := by rw [offL_len, List.length_take]; omega
  have hat : atD (offL e l).1 k = upZ (offL e (l.take k.toNat)).2 (atD l k).Align := by
    rw [hd, ht, hq]
    unfold offF
    dsimp only
    rw [atD_append_left (by simp only [List.length_append, List.length_singleton]; omega), atD_last (by omega)]
  refine ⟨hat, ?_⟩
  rw [hat, hq]
  rfl
theorem offL_mono2 (hs : ∀ s ∈ l, okS s) {j k : Nat} (h : j ≤ k) : (offL e (l.take j)).2 ≤ (offL e (l.take k)).2 := by
  have := offL_take (e := e) (l := l.take k) (fun s h => hs s (List.mem_of_mem_take h)) j
  rw [List.take_take, Nat.min_eq_left h] at this
  exact this
/-- Where range k lies. -/
theorem off_facts (hs : ∀ s ∈ l, okS s) (k : Int) (hk : inN k l.length) : e ≤ atD (offL e l).1 k ∧ 0 ≤ (atD l k).Size ∧ (atD l k).Size ≤ 16 ∧ atD (offL e l).1 k + (atD l k).Size ≤ (offL e l).2 ∧ atD (offL e l).1 k % (atD l k).Align = 0 ∧ 1 ≤ (atD l k).Align ∧ (∀ j, 0 ≤ j → j < k → atD (offL e l).1 j + (atD l j).Size ≤ atD (offL e l).1 k) := by
  obtain ⟨h1, h2⟩ := offL_at (e := e) k hk
  obtain ⟨s1, s2, s3⟩ := hs _ (atD_mem hk)
  have h3 := upZ_le (n := (offL e (l.take k.toNat)).2) (powB_bd s3).1
  have h4 := off_mono (l := l.take k.toNat) ([], e) fun s h => hs s (List.mem_of_mem_take h)
  change e ≤ (offL e (l.take k.toNat)).2 at h4
  have h5 := offL_take (e := e) hs (k + 1).toNat
  refine ⟨by omega, s1, s2, by omega, ?_, (powB_bd s3).1, fun j hj1 hj2 => ?_⟩
  · rw [h1]; exact upZ_mod _ _
  · obtain ⟨h6, h7⟩ := offL_at (e := e) (l := l) j ⟨hj1, by have := hk.2; omega⟩
    have h8 := offL_mono2 (e := e) hs (j := (j + 1).toNat) (k := k.toNat) (by omega)
    omega
end
theorem inside_sp (a : AInterval) (m : Int) (h0 : 0 ≤ a.Off) (h1 : 0 ≤ a.Size) (h2 : a.Off + a.Size ≤ 2147483647) : WP (extent_Inside a m) (· = decide (a.Off + a.Size ≤ m)) := by
  unfold extent_Inside extent_right
  refine WP.call (R := (· = true)) ?_ ?_
  · refine WP.call (ebound_sp _) ?_
    rintro _ rfl
    rw [(boundB_iff a.Off).2 ⟨h0, by omega⟩]
    refine WP.bif (fun _ => ?_) (fun wh => by cases wh)
    refine WP.call (ebound_sp _) ?_
    rintro _ rfl
    rw [(boundB_iff a.Size).2 ⟨h1, by omega⟩]
    refine WP.bif (fun _ => ?_) (fun wh => by cases wh)
    refine WP.chk ⟨by omega, by omega⟩ fun _ => ?_
    exact WP.ret (by simp; omega)
  rintro _ rfl
  refine WP.bif (fun _ => ?_) (fun wh => by cases wh)
  refine WP.chk ⟨by omega, by omega⟩ fun _ => ?_
  exact WP.ret rfl
theorem rinside_sp (a : AInterval) (m : Int) (h0 : 0 ≤ a.Off) (h1 : 0 ≤ a.Size) (h2 : a.Off + a.Size ≤ 2147483647) : WP (r03_Inside a m) (· = decide (a.Off + a.Size ≤ m)) := by
  unfold r03_Inside r03_Right
  refine WP.call (R := (· = true)) ?_ ?_
  · refine WP.call (rbound_sp _) ?_
    rintro _ rfl
    rw [(boundB_iff a.Off).2 ⟨h0, by omega⟩]
    refine WP.bif (fun _ => ?_) (fun wh => by cases wh)
    refine WP.call (rbound_sp _) ?_
    rintro _ rfl
    rw [(boundB_iff a.Size).2 ⟨h1, by omega⟩]
    refine WP.bif (fun _ => ?_) (fun wh => by cases wh)
    refine WP.chk ⟨by omega, by omega⟩ fun _ => ?_
    exact WP.ret (by simp; omega)
  rintro _ rfl
  refine WP.bif (fun _ => ?_) (fun wh => by cases wh)
  refine WP.chk ⟨by omega, by omega⟩ fun _ => ?_
  exact WP.ret rfl
/-! ### The scene's frame -/
end Go.Proofs.YtjnfnochdefpjaaGreat.Q
