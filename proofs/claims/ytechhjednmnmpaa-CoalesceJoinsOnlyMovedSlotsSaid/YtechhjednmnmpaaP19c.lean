/- Coalescing: the moves, the classes of both sides. -/
import Derived.Test.YtechhjednmnmpaaP31
set_option linter.unusedVariables false
set_option linter.unusedSimpArgs false
namespace Go.Proofs.Ytechhjednmnmpaa.Q
/-! ### Moves -/
def movesL (f : AFunc) : Nat → List Arr2Int
  | 0 => []
  | k + 1 => if (atD f.Code k).Op = 17 ∧ (atD f.Code k).A ≠ (atD f.Code k).B ∧ (⟨(atD f.Code k).A, (atD f.Code k).B⟩ : Arr2Int) ∉ movesL f k then movesL f k ++ [⟨(atD f.Code k).A, (atD f.Code k).B⟩] else movesL f k
theorem movesL_length (f : AFunc) : ∀ k, (movesL f k).length ≤ k
  | 0 => Nat.le_refl _
  | k + 1 => by
    have := movesL_length f k
    unfold movesL
    split
    · simp only [List.length_append, List.length_singleton]; omega
    · omega
theorem mem_movesL (f : AFunc) {m : Arr2Int} : ∀ {k : Nat}, m ∈ movesL f k → ∃ j : Nat, j < k ∧ (atD f.Code j).Op = 17 ∧ m = ⟨(atD f.Code j).A, (atD f.Code j).B⟩ ∧ m.e0 ≠ m.e1
  | 0, h => by cases h
  | k + 1, h => by
    unfold movesL at h
    split at h
    · rename_i hc
      rcases List.mem_append.1 h with h | h
      · obtain ⟨j, h1, h2⟩ := mem_movesL f h; exact ⟨j, by omega, h2⟩
      · rw [List.mem_singleton] at h
        exact ⟨k, by omega, hc.1, h, by rw [h]; exact hc.2.1⟩
    · obtain ⟨j, h1, h2⟩ := mem_movesL f h; exact ⟨j, by omega, h2⟩
theorem index2_sp (s : List Arr2Int) (v : Arr2Int) (hl : s.length ≤ 1000000000) : WP (slices_Index____2_int__2_int_ s v) fun i => (0 ≤ i ↔ v ∈ s) := by
  unfold slices_Index____2_int__2_int_
  refine WP.loop (fun j => (0 ≤ j ∧ j ≤ s.length) ∧ ∀ t, 0 ≤ t → t < j → v ≠ atD s t) (fun j => s.length - j.toNat) ⟨⟨by omega, by omega⟩, fun t h1 h2 => by omega⟩ ?_
  rintro again t ⟨⟨a1, a2⟩, a3⟩ ih
  refine WP.bif (fun wh => ?_) (fun wh => ?_) <;> (try simp only [wpH, ne_eq] at wh)
  · have htl := wh
    refine WP.chk ⟨a1, wh⟩ fun _ => ?_
    refine WP.bif (fun wh => ?_) (fun wh => ?_) <;> (try simp only [wpH, ne_eq] at wh)
    · exact WP.ret ⟨fun _ => by rw [wh]; exact atD_mem ⟨a1, htl⟩, fun _ => a1⟩
    · refine WP.chk ⟨by omega, by omega⟩ fun _ => ih _ ⟨⟨by omega, by omega⟩, fun u h1 h2 => ?_⟩ (by omega)
      by_cases hu : u = t
      · rw [hu]; exact wh
      · exact a3 u h1 (by omega)
  · refine WP.ret ⟨fun h => by omega, fun h => ?_⟩
    obtain ⟨u, h1, h2, h3⟩ := mem_atD h
    exact absurd h3.symm (a3 u h1 (by omega))
theorem contains2_sp (s : List Arr2Int) (v : Arr2Int) (hl : s.length ≤ 1000000000) : WP (slices_Contains____2_int__2_int_ s v) (· = decide (v ∈ s)) := by
  unfold slices_Contains____2_int__2_int_
  refine WP.call (index2_sp s v hl) fun i hi => WP.ret ?_
  rw [Bool.eq_iff_iff, decide_eq_true_eq, decide_eq_true_eq]; exact hi
theorem cmoves_sp (f : AFunc) (hc : f.Code.length ≤ 1000000) : WP (interfere_Moves f) (· = movesL f f.Code.length) := by
  unfold interfere_Moves
  refine WP.loop (fun j => ∃ m : Nat, m ≤ f.Code.length ∧ j.1 = m ∧ j.2 = movesL f m) (fun j => f.Code.length - j.1.toNat) ⟨0, by omega, rfl, rfl⟩ ?_
  rintro again ⟨x, l⟩ ⟨m, h1, h2, h3⟩ ih
  dsimp only at h2 h3 ⊢
  subst h2; subst h3
  have hml := movesL_length f m
  refine WP.bif (fun wh => ?_) (fun wh => ?_) <;> (try simp only [wpH, ne_eq] at wh)
  · have hlt := wh
    refine WP.chk ⟨by omega, by omega⟩ fun _ => ?_
    have hno : ¬ ((atD f.Code m).Op = 17 ∧ (atD f.Code m).A ≠ (atD f.Code m).B ∧ (⟨(atD f.Code m).A, (atD f.Code m).B⟩ : Arr2Int) ∉ movesL f m) → WP (M.chk (okI ((m : Int) + 1)) <| again ((m : Int) + 1, movesL f m)) (· = movesL f f.Code.length) := fun h => by
      refine WP.chk ⟨by omega, by omega⟩ fun _ => ih _ ⟨m + 1, by omega, by simp, ?_⟩ (by dsimp only; omega)
      rw [movesL, if_neg h]
    refine WP.bif (fun wh => ?_) (fun wh => hno fun h => ?_) <;> (try simp only [wpH, ne_eq] at wh)
    · have h17 := wh
      refine WP.bif (fun wh => ?_) (fun wh => hno fun h => ?_) <;> (try simp only [wpH, ne_eq] at wh)
      · have hne := wh
        refine WP.call (contains2_sp _ _ (by omega)) ?_
        rintro _ rfl
        refine WP.bif (fun wh => ?_) (fun wh => hno fun h => ?_) <;> (try simp only [wpH, ne_eq] at wh)
        · refine WP.chk (by simp only [List.length_singleton]; omega) fun _ => WP.chk ⟨by omega, by omega⟩ fun _ => ih _ ⟨m + 1, by omega, by simp, ?_⟩ (by dsimp only; omega)
          rw [movesL, if_pos ⟨h17, hne, wh⟩]
        · exact h.2.2 wh
      · exact h.2.1 wh
    · exact wh h.1
  · exact WP.ret (by rw [show m = f.Code.length by omega])
theorem rmoves_sp (f : AFunc) (hc : f.Code.length ≤ 1000000) : WP (r18_Moves f) (· = movesL f f.Code.length) := by
  unfold r18_Moves
  refine WP.loop (fun j => ∃ m : Nat, m ≤ f.Code.length ∧ j.1 = m ∧ j.2 = movesL f m) (fun j => f.Code.length - j.1.toNat) ⟨0, by omega, rfl, rfl⟩ ?_
  rintro again ⟨x, l⟩ ⟨m, h1, h2, h3⟩ ih
  dsimp only at h2 h3 ⊢
  subst h2; subst h3
  have hml := movesL_length f m
  refine WP.bif (fun wh => ?_) (fun wh => ?_) <;> (try simp only [wpH, ne_eq] at wh)
  · have hlt := wh
    refine WP.chk ⟨by omega, by omega⟩ fun _ => ?_
    refine WP.join (fun b => b = !decide ((atD f.Code m).Op = 17 ∧ (atD f.Code m).A ≠ (atD f.Code m).B)) ?_ ?_
    · intro b hb
      refine WP.loop (fun j => (0 ≤ j.2 ∧ j.2 ≤ (movesL f m).length) ∧ (j.1 = true ↔ (b = true ∨ ∃ t, 0 ≤ t ∧ t < j.2 ∧ atD (movesL f m) t = ⟨(atD f.Code m).A, (atD f.Code m).B⟩))) (fun j => (movesL f m).length - j.2.toNat) ⟨⟨by simp, by simp⟩, ⟨.inl, fun h => h.elim id fun ⟨t, h1, h2, _⟩ => by exfalso; dsimp only at h2; omega⟩⟩ ?_
      rintro again2 ⟨old, t⟩ ⟨⟨b1, b2⟩, b3⟩ ih2
      dsimp only at b1 b2 b3 ⊢
      refine WP.bif (fun wh => ?_) (fun wh => ?_) <;> (try simp only [wpH, ne_eq] at wh)
      · have htl := wh
        refine WP.bif (fun wh => ?_) (fun wh => ?_) <;> (try simp only [wpH, ne_eq] at wh)
        · refine WP.chk ⟨by omega, by omega⟩ fun _ => ih2 _ ⟨⟨by dsimp only; omega, by dsimp only; omega⟩, ⟨fun _ => (b3.1 wh).imp id fun ⟨u, h1, h2, h3⟩ => ⟨u, h1, by dsimp only; omega, h3⟩, fun _ => rfl⟩⟩ (by dsimp only; omega)
        · refine WP.chk ⟨by omega, by omega⟩ fun _ => WP.chk ⟨by omega, by omega⟩ fun _ => ih2 _ ⟨⟨by dsimp only; omega, by dsimp only; omega⟩, ⟨fun h => ?_, fun h => ?_⟩⟩ (by dsimp only; omega)
          · exact .inr ⟨t, b1, by dsimp only; omega, of_decide_eq_true h⟩
          · refine decide_eq_true ?_
            rcases h with h | ⟨u, h1, h2, h3⟩
            · rw [b3.2 (.inl h)] at wh; cases wh
            · by_cases hu : u = t
              · rw [← hu]; exact h3
              · have := b3.2 (.inr ⟨u, h1, by dsimp only at h2; omega, h3⟩)
                rw [this] at wh; cases wh
      · have hold : (old = true ↔ (b = true ∨ (⟨(atD f.Code m).A, (atD f.Code m).B⟩ : Arr2Int) ∈ movesL f m)) := b3.trans (or_congr Iff.rfl ⟨fun ⟨u, h1, h2, h3⟩ => by rw [← h3]; exact atD_mem ⟨h1, by omega⟩, fun h => by
          obtain ⟨u, h1, h2, h3⟩ := mem_atD h
          exact ⟨u, h1, by omega, h3⟩⟩)
        refine WP.bif (fun wh => ?_) (fun wh => ?_) <;> (try simp only [wpH, ne_eq] at wh)
        · have hn : ¬ old = true := by rw [wh]; simp
          rw [hold] at hn
          have hb0 : b = false := by cases b with | true => exact absurd (.inl rfl) hn | false => rfl
          rw [hb0] at hb
          have hb1 : (atD f.Code m).Op = 17 ∧ (atD f.Code m).A ≠ (atD f.Code m).B := by simpa using hb.symm
          refine WP.chk (by simp only [List.length_singleton]; omega) fun _ => WP.chk ⟨by omega, by omega⟩ fun _ => ih _ ⟨m + 1, by omega, by simp, ?_⟩ (by dsimp only; omega)
          rw [movesL, if_pos ⟨hb1.1, hb1.2, fun h => hn (.inr h)⟩]
        · refine WP.chk ⟨by omega, by omega⟩ fun _ => ih _ ⟨m + 1, by omega, by simp, ?_⟩ (by dsimp only; omega)
          rw [movesL, if_neg]
          rintro ⟨q1, q2, q3⟩
          rcases hold.1 wh with h | h
          · rw [hb] at h; simp [q1, q2] at h
          · exact q3 h
    · intro k2 hk2
      refine WP.bif (fun wh => ?_) (fun wh => ?_) <;> (try simp only [wpH, ne_eq] at wh)
      · exact hk2 _ (by simp [wh])
      · exact hk2 _ (by simp [wh])
  · exact WP.ret (by rw [show m = f.Code.length by omega])
section
variable {n i par : Int} {f : AFunc} {g : List (List Int)}
theorem movesL_ok (hf : WfF n i par f) {m : Arr2Int} (h : m ∈ movesL f f.Code.length) : inN m.e0 f.Slots.length ∧ inN m.e1 f.Slots.length ∧ (atD f.Slots m.e0).Size = (atD f.Slots m.e1).Size := by
  obtain ⟨j, h1, h17, hm, _⟩ := mem_movesL f h
  have hI := hf.at_ (k := (j : Int)) ⟨by omega, by omega⟩
  rw [hm]
  refine ⟨hI.dfn (by simp [remB, h17]), hI.use (by simp [useS, h17]), ?_⟩
  dsimp only
  generalize atD f.Code j = x at *
  cases hI <;> first | assumption | (simp at h17; done) | (exfalso; dsimp only at h17; omega)
end
/-! ### Classes -/
open Classical in
noncomputable def stepC (g : List (List Int)) (to : List Int) (m : Arr2Int) : List Int :=
  if atD to m.e0 = atD to m.e1 ∨ ¬ apartP g to (atD to m.e0) (atD to m.e1) then to else to.map (mrg (atD to m.e0) (atD to m.e1))
noncomputable def clsL (g : List (List Int)) (ms : List Arr2Int) (to : List Int) : List Int := ms.foldl (stepC g) to
def idL (n : Nat) : List Int := (List.range n).map fun k : Nat => (k : Int)
theorem idL_length (n : Nat) : (idL n).length = n := by simp [idL]
theorem idL_at {n : Nat} {s : Int} (hs : inN s n) : atD (idL n) s = s := by
  have : s.toNat < (idL n).length := by rw [idL_length]; have := hs.1; have := hs.2; omega
  have h := atD_nat this
  rw [show ((s.toNat : Nat) : Int) = s by have := hs.1; omega] at h
  rw [h]
  simp only [idL, List.getElem_map, List.getElem_range]
  have := hs.1; omega
theorem idL_succ (n : Nat) : idL (n + 1) = idL n ++ [(n : Int)] := by unfold idL; rw [List.range_succ, List.map_append]; rfl
theorem atD_map {l : List Int} {f : Int → Int} {s : Int} (hs : inN s l.length) : atD (l.map f) s = f (atD l s) := by
  have h0 : s.toNat < l.length := by have := hs.1; have := hs.2; omega
  have e : ((s.toNat : Nat) : Int) = s := by have := hs.1; omega
  have h1 := atD_nat (l := l.map f) (i := s.toNat) (by simpa using h0)
  have h2 := atD_nat h0
  rw [e] at h1 h2
  rw [h1, h2, List.getElem_map]
theorem eq_of_atD {a b : List Int} (hl : a.length = b.length) (h : ∀ s, inN s a.length → atD a s = atD b s) : a = b := by
  refine List.ext_getElem hl fun i h1 h2 => ?_
  have := h (i : Int) ⟨by omega, by omega⟩
  rw [atD_nat h1, atD_nat h2] at this
  exact this
theorem stepC_length (g : List (List Int)) (to : List Int) (m : Arr2Int) : (stepC g to m).length = to.length := by
  unfold stepC; split <;> simp
theorem clsL_length (g : List (List Int)) (ms : List Arr2Int) : ∀ to : List Int, (clsL g ms to).length = to.length := by
  induction ms with
  | nil => intro to; rfl
  | cons m ms ih => intro to; exact (ih _).trans (stepC_length g to m)
theorem clsL_snoc (g : List (List Int)) (ms : List Arr2Int) (m : Arr2Int) (to : List Int) : clsL g (ms ++ [m]) to = stepC g (clsL g ms to) m := by unfold clsL; rw [List.foldl_append]; rfl
theorem take_snoc {α : Type} [Inhabited α] {l : List α} {k : Nat} (h : k < l.length) : l.take (k + 1) = l.take k ++ [atD l k] := by
  rw [List.take_succ_eq_append_getElem h, atD_nat h]
/-! ### The forest -/
/-- The forest u has the classes to. -/
structure Fo (u to : List Int) : Prop where
  len : u.length = to.length
  at_ : ∀ x, inN x to.length → 0 ≤ atD u x ∧ atD u x ≤ x ∧ atD to (atD u x) = atD to x ∧ (atD u x = x → atD to x = x) ∧ 0 ≤ atD to x ∧ atD to x ≤ x
theorem Fo.root {u to : List Int} (h : Fo u to) : ∀ (k : Nat) {x : Int}, inN x to.length → x.toNat ≤ k → atD to (atD to x) = atD to x
  | k, x, hx, hk => by
    obtain ⟨h1, h2, h3, h4, h5, h6⟩ := h.at_ x hx
    by_cases he : atD u x = x
    · rw [h4 he, h4 he]
    · match k with
      | 0 => have := hx.1; omega
      | k + 1 =>
        have := h.root k (x := atD u x) ⟨h1, by have := hx.2; omega⟩ (by have := hx.1; omega)
        rw [h3] at this
        exact this
theorem Fo.idem {u to : List Int} (h : Fo u to) {x : Int} (hx : inN x to.length) : atD to (atD to x) = atD to x := h.root x.toNat hx (Nat.le_refl _)
theorem find_sp (u to : List Int) (s : Int) (h : Fo u to) (hs : inN s to.length) : WP (coalesce_forest_find u s) fun r => r.1 = atD to s ∧ Fo r.2 to := by
  unfold coalesce_forest_find
  refine WP.loop (fun j => inN j.1 to.length ∧ Fo j.2 to ∧ atD to j.1 = atD to s) (fun j => j.1.toNat) ⟨hs, h, rfl⟩ ?_
  rintro again ⟨x, v⟩ ⟨hx, hv, he⟩ ih
  dsimp only at hx hv he ⊢
  have hvl := hv.len
  obtain ⟨h1, h2, h3, h4, h5, h6⟩ := hv.at_ x hx
  have hx1 := hx.1
  have hx2 := hx.2
  refine WP.chk ⟨hx.1, by omega⟩ fun _ => ?_
  refine WP.bif (fun wh => ?_) (fun wh => ?_) <;> (try simp only [wpH, ne_eq] at wh)
  · obtain ⟨q1, q2, q3, q4, q5, q6⟩ := hv.at_ (atD v x) ⟨h1, by omega⟩
    refine WP.chk ⟨hx.1, by omega⟩ fun _ => WP.chk ⟨h1, by omega⟩ fun _ => WP.chk ⟨hx.1, by omega⟩ fun _ => WP.chk ⟨hx.1, by rw [length_setD]; omega⟩ fun _ => ?_
    rw [atD_setD ⟨hx.1, by omega⟩ hx.1, if_pos rfl]
    refine ih _ ⟨⟨q1, by dsimp only; omega⟩, ⟨by dsimp only; rw [length_setD]; exact hvl, fun y hy => ?_⟩, ?_⟩ (by dsimp only; omega)
    · dsimp only
      rw [atD_setD ⟨hx.1, by omega⟩ hy.1]
      split
      · rename_i hyx
        subst hyx
        exact ⟨q1, by omega, q3.trans h3, fun e => by omega, h5, h6⟩
      · exact hv.at_ y hy
    · dsimp only
      rw [q3, h3, he]
  · exact WP.ret ⟨by rw [← he]; exact (h4 wh).symm, hv⟩
theorem membersF_sp (u to : List Int) (root : Int) (h : Fo u to) (hl : to.length ≤ 1000000) : WP (coalesce_forest_members u root) fun r => r.1 = membS to root ∧ Fo r.2 to := by
  unfold coalesce_forest_members
  have hul := h.len
  refine WP.loop (fun j => ∃ m : Nat, m ≤ to.length ∧ j.1 = m ∧ Fo j.2.1 to ∧ j.2.2 = ((List.range m).filter fun t : Nat => decide (atD to (t : Int) = root)).map fun t : Nat => (t : Int)) (fun j => to.length - j.1.toNat) ⟨0, by simp, by simp, h, by simp⟩ ?_
  rintro again ⟨t, v, out⟩ ⟨m, h1, h2, hv, h3⟩ ih
  dsimp only at h2 hv h3 ih ⊢
  subst h2
  have hol : out.length ≤ m := by
    rw [h3, List.length_map]
    exact Nat.le_trans (List.length_filter_le _ _) (by simp)
  refine WP.bif (fun wh => ?_) (fun wh => ?_) <;> (try simp only [wpH, ne_eq] at wh)
  · have hlt := wh
    refine WP.call (find_sp v to m hv ⟨by omega, by omega⟩) fun r ⟨e1, e2⟩ => ?_
    rw [e1]
    refine WP.bif (fun wh => ?_) (fun wh => ?_) <;> (try simp only [wpH, ne_eq] at wh)
    · refine WP.chk (by simp only [List.length_singleton]; omega) fun _ => ?_
      refine WP.chk ⟨by omega, by omega⟩ fun _ => ?_
      refine ih _ ⟨m + 1, by omega, by simp, e2, ?_⟩ (by dsimp only; omega)
      rw [List.range_succ, List.filter_append, List.map_append, ← h3]
      simp [wh]
    · refine WP.chk ⟨by omega, by omega⟩ fun _ => ?_
      refine ih _ ⟨m + 1, by omega, by simp, e2, ?_⟩ (by dsimp only; omega)
      rw [List.range_succ, List.filter_append, List.map_append, ← h3]
      simp [wh]
  · refine WP.ret ⟨?_, hv⟩
    rw [h3]
    unfold membS
    rw [show m = to.length by omega]
theorem containsF_sp (s : List Int) (m : List (Int × Bool)) (hl : s.length ≤ 1000000000) : WP (slices_ContainsFunc___int_int__of_coalesce_forest__apart_1 s m) fun r => r.2 = m ∧ (r.1 = true ↔ ∃ t ∈ s, getM m t false = true) := by
  unfold slices_ContainsFunc___int_int__of_coalesce_forest__apart_1
  suffices hI : WP (slices_IndexFunc___int_int__of_coalesce_forest__apart_1 s m) (fun r => r.2 = m ∧ (0 ≤ r.1 ↔ ∃ t ∈ s, getM m t false = true)) from
    WP.call hI fun r ⟨h1, h2⟩ => WP.ret ⟨h1, by rw [decide_eq_true_eq]; exact h2⟩
  unfold slices_IndexFunc___int_int__of_coalesce_forest__apart_1
  refine WP.loop (fun j => (0 ≤ j.1 ∧ j.1 ≤ s.length) ∧ j.2 = m ∧ ∀ t, 0 ≤ t → t < j.1 → getM m (atD s t) false = false) (fun j => s.length - j.1.toNat) ⟨⟨by simp, by simp⟩, rfl, fun t h1 h2 => by dsimp only at h2; omega⟩ ?_
  rintro again ⟨x, f⟩ ⟨⟨a1, a2⟩, a4, a3⟩ ih
  dsimp only at a1 a2 a3 a4 ⊢
  subst a4
  refine WP.bif (fun wh => ?_) (fun wh => ?_) <;> (try simp only [wpH, ne_eq] at wh)
  · have hlt := wh
    refine WP.chk ⟨a1, wh⟩ fun _ => ?_
    unfold coalesce_forest__apart_1
    refine WP.call (WP.ret rfl : WP _ (· = (getM f (atD s x) false, f))) ?_
    rintro _ rfl
    dsimp only
    refine WP.bif (fun wh => ?_) (fun wh => ?_)
    · exact WP.ret ⟨rfl, fun _ => ⟨_, atD_mem ⟨a1, hlt⟩, wh⟩, fun _ => a1⟩
    · refine WP.chk ⟨by omega, by omega⟩ fun _ => ih _ ⟨⟨by dsimp only; omega, by dsimp only; omega⟩, rfl, fun t h1 h2 => ?_⟩ (by dsimp only; omega)
      by_cases ht : t = x
      · rw [ht]; exact wh
      · exact a3 t h1 (by dsimp only at h2; omega)
  · refine WP.ret ⟨rfl, fun h => by dsimp only at h; omega, fun ⟨t, h1, h2⟩ => ?_⟩
    obtain ⟨u, h3, h4, rfl⟩ := mem_atD h1
    rw [a3 u h3 (by omega)] at h2
    cases h2
theorem apartF_sp (u to : List Int) (g : List (List Int)) (a b : Int) (h : Fo u to) (hl : to.length ≤ 1000000) (hg : to.length ≤ g.length) (hgl : ∀ s, inN s g.length → (atD g s).length ≤ 1000000) : WP (coalesce_forest_apart u g a b) fun r => (r.1 = true ↔ apartP g to a b) ∧ Fo r.2 to := by
  unfold coalesce_forest_apart
  refine WP.call (membersF_sp u to b h hl) fun x1 ⟨e1, f1⟩ => ?_
  have hlb := membS_length to b
  rw [e1]
  refine WP.loop (fun j => (0 ≤ j.1 ∧ j.1 ≤ (membS to b).length) ∧ ∀ t, (getM j.2 t false = true ↔ ∃ i, 0 ≤ i ∧ i < j.1 ∧ atD (membS to b) i = t)) (fun j => (membS to b).length - j.1.toNat) ⟨⟨by simp, by simp⟩, fun t => ⟨fun q => (by simp [getM] at q), fun ⟨i, h1, h2, _⟩ => by exfalso; dsimp only at h2; omega⟩⟩ ?_
  rintro again ⟨x, m⟩ ⟨⟨a1, a2⟩, a3⟩ ih
  dsimp only at a1 a2 a3 ⊢
  refine WP.bif (fun wh => ?_) (fun wh => ?_) <;> (try simp only [wpH, ne_eq] at wh)
  · have hlt := wh
    refine WP.chk ⟨a1, wh⟩ fun _ => WP.chk ⟨by omega, by omega⟩ fun _ => ih _ ⟨⟨by dsimp only; omega, by dsimp only; omega⟩, fun t => ?_⟩ (by dsimp only; omega)
    dsimp only
    rw [getM_put]
    by_cases ht : atD (membS to b) x = t
    · rw [if_pos ht]; exact ⟨fun _ => ⟨x, a1, by omega, ht⟩, fun _ => rfl⟩
    · rw [if_neg ht, a3 t]
      refine ⟨fun ⟨i, h1, h2, h3⟩ => ⟨i, h1, by omega, h3⟩, fun ⟨i, h1, h2, h3⟩ => ⟨i, h1, ?_, h3⟩⟩
      by_cases hi : i = x
      · exact absurd (hi ▸ h3) ht
      · omega
  · have hm : ∀ t, (getM m t false = true ↔ t ∈ membS to b) := fun t => (a3 t).trans ⟨fun ⟨i, h1, h2, h3⟩ => by rw [← h3]; exact atD_mem ⟨h1, by omega⟩, fun q => by
      obtain ⟨i, h1, h2, h3⟩ := mem_atD q
      exact ⟨i, h1, by omega, h3⟩⟩
    refine WP.call (membersF_sp x1.2 to a f1 hl) fun x3 ⟨e3, f3⟩ => ?_
    have hla := membS_length to a
    rw [e3]
    refine WP.loop (fun j => (0 ≤ j.1 ∧ j.1 ≤ (membS to a).length) ∧ j.2 = m ∧ ∀ t, 0 ≤ t → t < j.1 → ∀ y ∈ membS to b, y ∉ atD g (atD (membS to a) t)) (fun j => (membS to a).length - j.1.toNat) ⟨⟨by simp, by simp⟩, rfl, fun t h1 h2 => by exfalso; dsimp only at h2; omega⟩ ?_
    rintro again2 ⟨y, m'⟩ ⟨⟨b1, b2⟩, b4, b3⟩ ih2
    dsimp only at b1 b2 b3 b4 ⊢
    subst b4
    refine WP.bif (fun wh => ?_) (fun wh => ?_) <;> (try simp only [wpH, ne_eq] at wh)
    · have hlt := wh
      have hmm := atD_mem (l := membS to a) (i := y) ⟨b1, wh⟩
      obtain ⟨⟨q1, q2⟩, q3⟩ := mem_membS.1 hmm
      have hgl2 := hgl (atD (membS to a) y) ⟨q1, by omega⟩
      refine WP.chk ⟨b1, wh⟩ fun _ => WP.chk ⟨q1, by omega⟩ fun _ => ?_
      refine WP.call (containsF_sp _ _ (by omega)) fun r ⟨r1, r2⟩ => ?_
      rw [r1]
      refine WP.bif (fun wh => ?_) (fun wh => ?_)
      · obtain ⟨t, ht1, ht2⟩ := r2.1 wh
        exact WP.ret ⟨⟨fun q => (by cases q), fun q => (q _ hmm t ((hm t).1 ht2) ht1).elim⟩, f3⟩
      · refine WP.chk ⟨by omega, by omega⟩ fun _ => ih2 _ ⟨⟨by dsimp only; omega, by dsimp only; omega⟩, rfl, fun t h1 h2 z hz => ?_⟩ (by dsimp only; omega)
        by_cases ht : t = y
        · rw [ht]
          intro hzz
          rw [r2.2 ⟨z, hzz, (hm z).2 hz⟩] at wh; cases wh
        · exact b3 t h1 (by dsimp only at h2; omega) z hz
    · refine WP.ret ⟨⟨fun _ x hx z hz => ?_, fun _ => rfl⟩, f3⟩
      obtain ⟨t', e1, e2, rfl⟩ := mem_atD hx
      exact b3 t' e1 (by omega) z hz
theorem joinF_sp (u to : List Int) (a b : Int) (h : Fo u to) (ha : inN a to.length) (hb : inN b to.length) (hra : atD to a = a) (hrb : atD to b = b) : WP (coalesce_forest_join u a b) fun r => Fo r (to.map (mrg a b)) := by
  unfold coalesce_forest_join
  refine WP.call (find_sp u to a h ha) fun x1 ⟨e1, f1⟩ => ?_
  refine WP.call (find_sp x1.2 to b f1 hb) fun x2 ⟨e2, f2⟩ => ?_
  rw [e1, e2, hra, hrb]
  have hl2 := f2.len
  have ha1 := ha.1; have ha2 := ha.2; have hb1 := hb.1; have hb2 := hb.2
  refine WP.chk ⟨by omega, by omega⟩ fun _ => WP.ret ⟨by rw [length_setD, List.length_map]; exact hl2, fun x hx => ?_⟩
  rw [List.length_map] at hx
  obtain ⟨h1, h2, h3, h4, h5, h6⟩ := f2.at_ x hx
  rw [atD_setD ⟨by omega, by omega⟩ hx.1, atD_map hx]
  split
  · rename_i hxm
    have hmin : atD to (min a b) = min a b := by
      rcases (show min a b = a ∨ min a b = b by omega) with q | q <;> rw [q] <;> assumption
    have hmax : atD to x = x := by
      rw [hxm]
      rcases (show max a b = a ∨ max a b = b by omega) with q | q <;> rw [q] <;> assumption
    rw [atD_map ⟨by omega, by omega⟩, hmin, hmax]
    unfold mrg
    rw [if_pos (by omega), if_pos (by omega)]
    exact ⟨by omega, by omega, rfl, fun q => q, by omega, by omega⟩
  · rename_i hxm
    rw [atD_map ⟨h1, by have := hx.2; omega⟩, h3]
    refine ⟨h1, h2, rfl, fun q => ?_, ?_, ?_⟩
    · rw [h4 q]; unfold mrg; split <;> omega
    · unfold mrg; split <;> omega
    · unfold mrg; split <;> omega
theorem singles_sp (n : Nat) (hn : n ≤ 1000000) : WP (coalesce_singles (n : Int)) (· = idL n) := by
  unfold coalesce_singles
  refine WP.chk ⟨by omega, by omega⟩ fun _ => ?_
  refine WP.loop (fun j => (0 ≤ j.1 ∧ j.1 ≤ n) ∧ j.2.length = n ∧ ∀ t, 0 ≤ t → t < j.1 → atD j.2 t = t) (fun j => n - j.1.toNat) ⟨⟨by simp, by simp⟩, by simp [length_repD], fun t h1 h2 => by exfalso; dsimp only at h2; omega⟩ ?_
  rintro again ⟨x, u⟩ ⟨⟨a1, a2⟩, a3, a4⟩ ih
  dsimp only at a1 a2 a3 a4 ⊢
  simp only [length_repD]
  refine WP.bif (fun wh => ?_) (fun wh => ?_) <;> (try simp only [wpH, ne_eq] at wh)
  · refine WP.chk ⟨a1, by omega⟩ fun _ => WP.chk ⟨by omega, by omega⟩ fun _ => ih _ ⟨⟨by dsimp only; omega, by dsimp only; omega⟩, by dsimp only; rw [length_setD]; exact a3, fun t h1 h2 => ?_⟩ (by dsimp only; omega)
    dsimp only at h2 ⊢
    rw [atD_setD ⟨a1, by omega⟩ h1]
    split
    · omega
    · exact a4 t h1 (by omega)
  · refine WP.ret (eq_of_atD (by rw [a3, idL_length]) fun s hs => ?_)
    rw [a3] at hs
    rw [a4 s hs.1 (by have := hs.2; omega), idL_at hs]
section
variable {n i par : Int} {f : AFunc} {g : List (List Int)}
theorem cclasses_sp (hf : WfF n i par f) (hg : f.Slots.length ≤ g.length) (hgl : ∀ s, inN s g.length → (atD g s).length ≤ 1000000) : WP (coalesce_Classes f g) (· = clsL g (movesL f f.Code.length) (idL f.Slots.length)) := by
  have hc := hf.code
  have hsl := hf.slots
  unfold coalesce_Classes
  refine WP.call (singles_sp _ (by omega)) ?_
  rintro _ rfl
  refine WP.call (cmoves_sp f (by omega)) ?_
  rintro _ rfl
  have hml := movesL_length f f.Code.length
  have hok : ∀ m ∈ movesL f f.Code.length, _ := fun m hm => movesL_ok hf hm
  generalize movesL f f.Code.length = ms at *
  refine WP.loop (fun j => ∃ k : Nat, k ≤ ms.length ∧ j.1 = k ∧ Fo j.2 (clsL g (ms.take k) (idL f.Slots.length))) (fun j => ms.length - j.1.toNat) ⟨0, by omega, rfl, ⟨rfl, fun x hx => ?_⟩⟩ ?_
  · dsimp only [clsL, List.take_zero, List.foldl_nil] at hx ⊢
    rw [idL_length] at hx
    rw [idL_at hx, idL_at hx]
    exact ⟨hx.1, by omega, rfl, fun _ => rfl, hx.1, by omega⟩
  rintro again ⟨x, u⟩ ⟨k, h1, h2, hF⟩ ih
  dsimp only at h2 hF ⊢
  subst h2
  have htl : (clsL g (ms.take k) (idL f.Slots.length)).length = f.Slots.length := by rw [clsL_length, idL_length]
  have hul := hF.len
  refine WP.bif (fun wh => ?_) (fun wh => ?_) <;> (try simp only [wpH, ne_eq] at wh)
  · have hlt := wh
    have hk : k < ms.length := by omega
    obtain ⟨m0, m1, _⟩ := hok _ (atD_mem (l := ms) (i := (k : Int)) ⟨by omega, wh⟩)
    have hstep := clsL_snoc g (ms.take k) (atD ms k) (idL f.Slots.length)
    rw [← take_snoc hk] at hstep
    generalize atD ms (k : Int) = m at *
    generalize clsL g (ms.take k) (idL f.Slots.length) = to at *
    have m0' : inN m.e0 to.length := ⟨m0.1, by have := m0.2; omega⟩
    have m1' : inN m.e1 to.length := ⟨m1.1, by have := m1.2; omega⟩
    have r0 := hF.at_ _ m0'
    have r1 := hF.at_ _ m1'
    have hr0 := hF.idem m0'
    have hr1 := hF.idem m1'
    refine WP.chk ⟨by omega, wh⟩ fun _ => ?_
    refine WP.call (find_sp u to _ hF m0') fun x4 ⟨e4, f4⟩ => ?_
    refine WP.call (find_sp x4.2 to _ f4 m1') fun x5 ⟨e5, f5⟩ => ?_
    rw [e4, e5]
    refine WP.bif (fun wh => ?_) (fun wh => ?_) <;> (try simp only [wpH, ne_eq] at wh)
    · have hne := wh
      refine WP.call (apartF_sp x5.2 to g _ _ f5 (by omega) (by omega) hgl) fun x6 ⟨e6, f6⟩ => ?_
      refine WP.bif (fun wh => ?_) (fun wh => ?_)
      · have hap := e6.1 wh
        refine WP.call (joinF_sp x6.2 to (atD to m.e0) (atD to m.e1) f6 ⟨r0.2.2.2.2.1, by have := m0.2; omega⟩ ⟨r1.2.2.2.2.1, by have := m1.2; omega⟩ hr0 hr1) fun x7 f7 => ?_
        refine WP.chk ⟨by omega, by omega⟩ fun _ => ih _ ⟨k + 1, by omega, by simp, ?_⟩ (by dsimp only; omega)
        dsimp only
        rw [hstep]
        unfold stepC
        rw [if_neg (fun q => q.elim hne fun q => q hap)]
        exact f7
      · have hap : ¬ apartP g to (atD to m.e0) (atD to m.e1) := fun q => by rw [e6.2 q] at wh; cases wh
        refine WP.chk ⟨by omega, by omega⟩ fun _ => ih _ ⟨k + 1, by omega, by simp, ?_⟩ (by dsimp only; omega)
        dsimp only
        rw [hstep]
        unfold stepC
        rw [if_pos (.inr hap)]
        exact f6
    · refine WP.chk ⟨by omega, by omega⟩ fun _ => ih _ ⟨k + 1, by omega, by simp, ?_⟩ (by dsimp only; omega)
      dsimp only
      rw [hstep]
      unfold stepC
      rw [if_pos (.inl wh)]
      exact f5
  · have hk : k = ms.length := by omega
    subst hk
    rw [List.take_length] at hF hul htl
    generalize clsL g ms (idL f.Slots.length) = to at *
    refine WP.loop (fun j => (0 ≤ j.1 ∧ j.1 ≤ to.length) ∧ Fo j.2.1 to ∧ (j.2.2.length : Int) = j.1 ∧ ∀ t, 0 ≤ t → t < j.1 → atD j.2.2 t = atD to t) (fun j => to.length - j.1.toNat) ⟨⟨by simp, by simp⟩, hF, by simp, fun t h1 h2 => by exfalso; dsimp only at h2; omega⟩ ?_
    rintro again2 ⟨y, v, l⟩ ⟨⟨a1, a2⟩, a3, a4, a5⟩ ih2
    dsimp only at a1 a2 a3 a4 a5 ⊢
    refine WP.bif (fun wh => ?_) (fun wh => ?_) <;> (try simp only [wpH, ne_eq] at wh)
    · refine WP.call (find_sp v to y a3 ⟨a1, by omega⟩) fun x9 ⟨e9, f9⟩ => ?_
      refine WP.chk (by simp only [List.length_singleton]; omega) fun _ => WP.chk ⟨by omega, by omega⟩ fun _ => ih2 _ ⟨⟨by dsimp only; omega, by dsimp only; omega⟩, f9, by simp only [List.length_append, List.length_singleton]; omega, fun t h1 h2 => ?_⟩ (by dsimp only; omega)
      dsimp only at h2 ⊢
      by_cases ht : t = y
      · rw [atD_last (by omega), e9, ht]
      · rw [atD_append_left (by omega)]
        exact a5 t h1 (by omega)
    · exact WP.ret (eq_of_atD (by omega) fun s hs => a5 s hs.1 (by have := hs.2; omega))
theorem rclasses_sp (hf : WfF n i par f) (hg : f.Slots.length ≤ g.length) (hgl : ∀ s, inN s g.length → (atD g s).length ≤ 1000000) : WP (r19_Classes f g) (· = clsL g (movesL f f.Code.length) (idL f.Slots.length)) := by
  have hc := hf.code
  have hsl := hf.slots
  unfold r19_Classes
  refine WP.loop (fun j => ∃ k : Nat, k ≤ f.Slots.length ∧ j.1 = k ∧ j.2 = idL k) (fun j => f.Slots.length - j.1.toNat) ⟨0, by omega, rfl, rfl⟩ ?_
  rintro again1 ⟨s, to⟩ ⟨k, h1, h2, h3⟩ ih1
  dsimp only at h2 h3 ⊢
  subst h2; subst h3
  have hkl := idL_length k
  refine WP.bif (fun wh => ?_) (fun wh => ?_) <;> (try simp only [wpH, ne_eq] at wh)
  · refine WP.chk (by simp only [List.length_singleton]; omega) fun _ => WP.chk ⟨by omega, by omega⟩ fun _ => ih1 _ ⟨k + 1, by omega, by simp, (idL_succ k).symm⟩ (by dsimp only; omega)
  have hk : k = f.Slots.length := by omega
  subst hk
  refine WP.call (rmoves_sp f (by omega)) ?_
  rintro _ rfl
  have hml := movesL_length f f.Code.length
  have hok : ∀ m ∈ movesL f f.Code.length, _ := fun m hm => movesL_ok hf hm
  generalize movesL f f.Code.length = ms at *
  refine WP.loop (fun j => ∃ k : Nat, k ≤ ms.length ∧ j.1 = k ∧ j.2 = clsL g (ms.take k) (idL f.Slots.length)) (fun j => ms.length - j.1.toNat) ⟨0, by omega, rfl, rfl⟩ ?_
  rintro again2 ⟨x, to⟩ ⟨k, h1, h2, h3⟩ ih2
  dsimp only at h2 h3 ⊢
  subst h2
  have htl : to.length = f.Slots.length := by rw [h3, clsL_length, idL_length]
  refine WP.bif (fun wh => ?_) (fun wh => ?_) <;> (try simp only [wpH, ne_eq] at wh)
  · have hlt := wh
    have hk : k < ms.length := by omega
    obtain ⟨m0, m1, _⟩ := hok _ (atD_mem (l := ms) (i := (k : Int)) ⟨by omega, wh⟩)
    have hstep := clsL_snoc g (ms.take k) (atD ms k) (idL f.Slots.length)
    rw [← take_snoc hk, ← h3] at hstep
    clear h3
    generalize atD ms (k : Int) = m at *
    have m01 := m0.1; have m02 := m0.2; have m11 := m1.1; have m12 := m1.2
    refine WP.chk ⟨by omega, wh⟩ fun _ => WP.chk ⟨by omega, by omega⟩ fun _ => WP.chk ⟨by omega, wh⟩ fun _ => WP.chk ⟨by omega, by omega⟩ fun _ => ?_
    refine WP.bif (fun wh => ?_) (fun wh => ?_) <;> (try simp only [wpH, ne_eq] at wh)
    · refine WP.chk ⟨by omega, by omega⟩ fun _ => ih2 _ ⟨k + 1, by omega, by simp, ?_⟩ (by dsimp only; omega)
      rw [hstep]; unfold stepC; rw [if_pos (.inl wh)]
    have hne := wh
    refine WP.call (apart_sp g to _ _ (by omega) (by omega) hgl) fun x2 hx2 => ?_
    refine WP.bif (fun wh => ?_) (fun wh => ?_) <;> (try simp only [wpH, ne_eq] at wh)
    · have hap : ¬ apartP g to (atD to m.e0) (atD to m.e1) := fun q => by rw [hx2.2 q] at wh; cases wh
      refine WP.chk ⟨by omega, by omega⟩ fun _ => ih2 _ ⟨k + 1, by omega, by simp, ?_⟩ (by dsimp only; omega)
      rw [hstep]; unfold stepC; rw [if_pos (.inr hap)]
    have hap := hx2.1 wh
    have hst : stepC g to m = to.map (mrg (atD to m.e0) (atD to m.e1)) := by unfold stepC; rw [if_neg (fun q => q.elim hne fun q => q hap)]
    refine WP.loop (fun j => (0 ≤ j.1 ∧ j.1 ≤ to.length) ∧ j.2.length = to.length ∧ (∀ s, 0 ≤ s → s < j.1 → atD j.2 s = mrg (atD to m.e0) (atD to m.e1) (atD to s)) ∧ ∀ s, j.1 ≤ s → s < to.length → atD j.2 s = atD to s) (fun j => to.length - j.1.toNat) ⟨⟨by simp, by simp⟩, rfl, fun s h1 h2 => by exfalso; dsimp only at h2; omega, fun _ _ _ => rfl⟩ ?_
    rintro again3 ⟨q, t3⟩ ⟨⟨d1, d2⟩, d3, d4, d5⟩ ih3
    dsimp only at d1 d2 d3 d4 d5 ih3 ⊢
    refine WP.bif (fun wh => ?_) (fun wh => ?_) <;> (try simp only [wpH, ne_eq] at wh)
    · have hql := wh
      have e5 := d5 q (Int.le_refl _) (by omega)
      have hgo : (atD t3 q = atD to m.e0 ∨ atD t3 q = atD to m.e1) → WP (again3 (q + 1, setD t3 q (min (atD to m.e0) (atD to m.e1)))) (· = clsL g ms (idL f.Slots.length)) := fun hh => by
        refine ih3 _ ⟨⟨by dsimp only; omega, by dsimp only; omega⟩, by dsimp only; rw [length_setD, d3], fun s h1 h2 => ?_, fun s h1 h2 => ?_⟩ (by dsimp only; omega)
        · dsimp only at h2 ⊢
          rw [atD_setD ⟨d1, by omega⟩ h1]
          split
          · rename_i hs; subst hs
            unfold mrg
            rw [← e5, if_pos hh]
          · exact d4 s h1 (by omega)
        · dsimp only at h1 ⊢
          rw [atD_setD ⟨d1, by omega⟩ (by omega), if_neg (by omega)]
          exact d5 s (by omega) h2
      refine WP.chk ⟨by omega, by omega⟩ fun _ => ?_
      refine WP.bif (fun wh => ?_) (fun wh => ?_) <;> (try simp only [wpH, ne_eq] at wh)
      · have hh := wh
        refine WP.chk ⟨by omega, by omega⟩ fun _ => WP.chk ⟨by omega, by omega⟩ fun _ => hgo (.inl hh)
      · have hn0 := wh
        refine WP.chk ⟨by omega, by omega⟩ fun _ => ?_
        refine WP.bif (fun wh => ?_) (fun wh => ?_) <;> (try simp only [wpH, ne_eq] at wh)
        · have hh := wh
          refine WP.chk ⟨by omega, by omega⟩ fun _ => WP.chk ⟨by omega, by omega⟩ fun _ => hgo (.inr hh)
        · have hn1 := wh
          refine WP.chk ⟨by omega, by omega⟩ fun _ => ih3 _ ⟨⟨by dsimp only; omega, by dsimp only; omega⟩, d3, fun s h1 h2 => ?_, fun s h1 h2 => d5 s (by dsimp only at h1; omega) h2⟩ (by dsimp only; omega)
          dsimp only at h2 ⊢
          by_cases hs : s = q
          · subst hs
            unfold mrg
            rw [← e5, if_neg (fun h => h.elim hn0 hn1)]
          · exact d4 s h1 (by omega)
    · refine WP.chk ⟨by omega, by omega⟩ fun _ => ih2 _ ⟨k + 1, by omega, by simp, ?_⟩ (by dsimp only; omega)
      rw [hstep, hst]
      refine eq_of_atD (by rw [d3, List.length_map]) fun s hs => ?_
      rw [d3] at hs
      rw [atD_map hs]
      exact d4 s hs.1 (by have := hs.2; omega)
  · exact WP.ret (by rw [h3, show k = ms.length by omega, List.take_length])
end
end Go.Proofs.Ytechhjednmnmpaa.Q
