/- Graphs: reaching by unions, turned edges. -/
import Derived.Test.YtmefipdgohflmaaDoorP27g
set_option linter.unusedVariables false
set_option linter.unusedSimpArgs false
namespace Go.Proofs.YtmefipdgohflmaaDoor.Q
theorem unionS_le {a b : List Int} (ha : IsS a) (hb : ∀ x ∈ b, 0 ≤ x ∧ x < 512) (h : (unionS a b).length ≤ a.length) : ∀ x ∈ b, x ∈ a := fun x hx => by
  by_cases hxa : x ∈ a
  · exact hxa
  · have := nodup_length (a := x :: a) (b := unionS a b) (List.nodup_cons.2 ⟨hxa, ha.nodup⟩) fun y hy => mem_unionS.2 ((List.mem_cons.1 hy).elim (fun h => .inr (h ▸ ⟨hx, hb x hx⟩)) .inl)
    simp only [List.length_cons] at this
    omega
theorem reach27r_sp (g : List (List Int)) (hg : GrP g) (a : Int) : WP (r27_Reach g a) (ReachP g a) := by
  have hlen := hg.len
  unfold r27_Reach
  refine WP.bif (fun wh => ?_) (fun wh => ?_) <;> (try simp only [wpH, ne_eq] at wh)
  · exact WP.ret ⟨fun h => absurd h.1 (by omega), fun _ => rfl⟩
  refine WP.bif (fun wh => ?_) (fun wh => ?_) <;> (try simp only [wpH, ne_eq] at wh)
  · exact WP.ret ⟨fun h => absurd h.2 (by omega), fun _ => rfl⟩
  have ha : inN a g.length := ⟨by omega, by omega⟩
  refine WP.loop (fun z => IsS z.1 ∧ a ∈ z.1 ∧ (∀ y ∈ z.1, Way g a y) ∧ (z.2 = false → ∀ x ∈ z.1, ∀ y ∈ atD g x, y ∈ z.1)) (fun z => (512 - z.1.length) * 2 + z.2.toNat) ⟨⟨List.pairwise_singleton .., fun x hx => by rw [one_mem hx]; exact ⟨ha.1, by have := ha.2; omega⟩⟩, List.mem_cons_self, fun y hy => by rw [one_mem hy]; exact .refl, fun h => (by cases h)⟩ ?_
  rintro again ⟨out, ag⟩ ⟨h1, h2, h3, h4⟩ ih
  dsimp only at h1 h2 h3 h4 ih ⊢
  have hol := h1.length
  refine WP.bif (fun wag => ?_) (fun wh => ?_)
  · refine WP.loop (fun z => IsS z.1 ∧ a ∈ z.1 ∧ (∀ y ∈ z.1, Way g a y) ∧ 0 ≤ z.2.2 ∧ z.2.2 ≤ g.length ∧ (z.2.1 = true → out.length < z.1.length) ∧ (z.2.1 = false → z.1 = out ∧ ∀ x ∈ out, x < z.2.2 → ∀ y ∈ atD g x, y ∈ out)) (fun z => g.length - z.2.2.toNat) ⟨h1, h2, h3, Int.le_refl _, by dsimp only; omega, fun h => (by cases h), fun _ => ⟨rfl, fun x hx hlt => by have := (h1.rng x hx).1; dsimp only at hlt; omega⟩⟩ ?_
    rintro again2 ⟨out2, ag2, i⟩ ⟨g1, g2, g3, g4, g5, g6, g7⟩ ih2
    dsimp only at g1 g2 g3 g4 g5 g6 g7 ih2 ⊢
    have hol2 := g1.length
    refine WP.bif (fun wh => ?_) (fun wh => ?_) <;> (try simp only [wpH, ne_eq] at wh)
    · have hi : inN i g.length := ⟨g4, wh⟩
      have hr := (hg.row i hi).length
      refine WP.chk hi fun _ => ?_
      refine WP.call (union_sp _ _ (by omega)) fun x1 hx1 => ?_
      refine WP.call (has_sp _ _ (by omega)) fun x2 hx2 => ?_
      have hrng : ∀ y ∈ atD g i, 0 ≤ y ∧ y < 512 := fun y hy => (hg.row i hi).rng y hy
      have skip : (i ∈ out2 → x1.length ≤ out2.length) → WP (again2 (out2, ag2, (i + 1))) (ReachP g a) := fun hsk => by
        refine ih2 _ ⟨g1, g2, g3, by dsimp only; omega, by dsimp only; omega, g6, fun h => ⟨(g7 h).1, fun x hx hlt y hy => ?_⟩⟩ (by dsimp only; omega)
        dsimp only at hlt
        obtain ⟨e, q⟩ := g7 h
        by_cases he : x = i
        · have hm : i ∈ out2 := by rw [e, ← he]; exact hx
          have := unionS_le g1 hrng (hx1 ▸ hsk hm) y (he ▸ hy)
          rwa [e] at this
        · exact q x hx (by omega) y hy
      refine WP.bif (fun wh => ?_) (fun wh => ?_)
      · have hm : i ∈ out2 := by rw [hx2] at wh; simpa using wh
        refine WP.bif (fun wh => ?_) (fun wh => ?_) <;> (try simp only [wpH, ne_eq] at wh)
        · refine WP.chk ⟨by omega, by omega⟩ fun _ => ?_
          refine ih2 _ ⟨hx1 ▸ g1.union _, hx1 ▸ mem_unionS.2 (.inl g2), fun y hy => ?_, by dsimp only; omega, by dsimp only; omega, fun _ => ?_, fun h => (by cases h)⟩ (by dsimp only; omega)
          · rcases mem_unionS.1 (hx1 ▸ hy) with hy | ⟨hy, _⟩
            · exact g3 y hy
            · exact (g3 i hm).step hy
          · dsimp only
            cases ag2 with
            | true => have := g6 rfl; omega
            | false => have := (g7 rfl).1; subst this; omega
        · exact WP.chk ⟨by omega, by omega⟩ fun _ => skip fun _ => by omega
      · exact WP.chk ⟨by omega, by omega⟩ fun _ => skip fun h => by rw [hx2] at wh; simp [h] at wh
    · refine ih _ ⟨g1, g2, g3, fun h x hx y hy => ?_⟩ ?_
      · obtain ⟨e, q⟩ := g7 h
        dsimp only at hx ⊢
        rw [e] at hx ⊢
        have hxr := (h3 x hx).rng hg ha
        exact q x hx (by have := hxr.2; omega) y hy
      · dsimp only
        rw [wag]
        cases ag2 with
        | true => have := g6 rfl; simp; omega
        | false => have := (g7 rfl).1; subst this; simp
  · refine WP.ret ⟨fun _ => ⟨h1, fun y => ⟨h3 y, fun h => ?_⟩⟩, fun h => absurd ha h⟩
    exact Way.closed (S := (· ∈ out)) h2 (h4 wh) h
/-! ### Turned edges -/
def turnRow (g : List (List Int)) (m : Nat) (j : Int) : List Int := ((List.range m).filter fun k : Nat => decide (j ∈ atD g (k : Int))).map fun k : Nat => (k : Int)
theorem mem_turnRow {g : List (List Int)} {m : Nat} {j y : Int} : y ∈ turnRow g m j ↔ inN y m ∧ j ∈ atD g y := by
  unfold turnRow
  rw [List.mem_map]
  constructor
  · rintro ⟨k, hk, rfl⟩
    rw [List.mem_filter, List.mem_range, decide_eq_true_eq] at hk
    exact ⟨⟨by omega, by omega⟩, hk.2⟩
  · rintro ⟨h1, h2⟩
    refine ⟨y.toNat, ?_, Int.toNat_of_nonneg h1.1⟩
    rw [List.mem_filter, List.mem_range, decide_eq_true_eq, Int.toNat_of_nonneg h1.1]
    exact ⟨by have := h1.1; have := h1.2; omega, h2⟩
theorem turnRow_length (g : List (List Int)) (m : Nat) (j : Int) : (turnRow g m j).length ≤ m := by
  unfold turnRow
  rw [List.length_map]
  exact Nat.le_trans (List.length_filter_le _ _) (by rw [List.length_range]; exact Nat.le_refl _)
theorem turnRow_asc (g : List (List Int)) (m : Nat) (j : Int) : (turnRow g m j).Pairwise (· < ·) := asc_range _ _
theorem turnRow_succ (g : List (List Int)) (m : Nat) (j : Int) : turnRow g (m + 1) j = turnRow g m j ++ (if j ∈ atD g (m : Int) then [(m : Int)] else []) := by
  unfold turnRow
  rw [List.range_succ, List.filter_append, List.map_append]
  congr 1
  by_cases h : j ∈ atD g (m : Int)
  · rw [if_pos h]; simp [List.filter, h]
  · rw [if_neg h]; simp [List.filter, h]
def turnS (g : List (List Int)) : List (List Int) := (List.range g.length).map fun j : Nat => turnRow g g.length (j : Int)
theorem turnS_length (g : List (List Int)) : (turnS g).length = g.length := by unfold turnS; simp
theorem turnS_at {g : List (List Int)} {j : Int} (hj : inN j g.length) : atD (turnS g) j = turnRow g g.length j := by
  obtain ⟨n, rfl⟩ := Int.eq_ofNat_of_zero_le hj.1
  have hn : n < g.length := by have := hj.2; omega
  rw [atD_nat (by rw [turnS_length]; exact hn)]
  simp [turnS]
theorem GrP.turn {g : List (List Int)} (hg : GrP g) : GrP (turnS g) := by
  refine ⟨by rw [turnS_length]; exact hg.len, fun i hi => ?_, fun i hi y hy => ?_⟩
  · rw [turnS_length] at hi
    rw [turnS_at hi]
    refine ⟨turnRow_asc _ _ _, fun x hx => ?_⟩
    have h1 := (mem_turnRow.1 hx).1
    have h2 := hg.len
    exact ⟨h1.1, by have := h1.2; omega⟩
  · rw [turnS_length] at hi ⊢
    rw [turnS_at hi] at hy
    exact (mem_turnRow.1 hy).1
theorem mem_turnS {g : List (List Int)} {i j : Int} (hj : inN j g.length) : i ∈ atD (turnS g) j ↔ inN i g.length ∧ j ∈ atD g i := by
  rw [turnS_at hj, mem_turnRow]
theorem turnS_turnS {g : List (List Int)} (hg : GrP g) : turnS (turnS g) = g := by
  refine ext27 (by rw [turnS_length, turnS_length]) fun k hk => ?_
  have hk' : inN k g.length := by rw [turnS_length, turnS_length] at hk; exact hk
  have hk2 : inN k (turnS g).length := by rw [turnS_length]; exact hk'
  refine ((hg.turn.turn).row k hk).ext (hg.row k hk') fun x => ?_
  rw [mem_turnS hk2, turnS_length]
  constructor
  · rintro ⟨h1, h2⟩
    exact ((mem_turnS h1).1 h2).2
  · intro h
    have hx := hg.rng k hk' x h
    exact ⟨hx, (mem_turnS hx).2 ⟨hk', h⟩⟩
theorem Way.turn {g : List (List Int)} (hg : GrP g) {a b : Int} (ha : inN a g.length) (h : Way g a b) : Way (turnS g) b a := by
  induction h with
  | refl => exact .refl
  | step h1 h2 ih =>
    have hb := h1.rng hg ha
    exact Way.head ((mem_turnS (hg.rng _ hb _ h2)).2 ⟨hb, h2⟩) ih
theorem Way.turn_iff {g : List (List Int)} (hg : GrP g) {a b : Int} (ha : inN a g.length) (hb : inN b g.length) : Way (turnS g) b a ↔ Way g a b := by
  refine ⟨fun h => ?_, fun h => h.turn hg ha⟩
  have := h.turn hg.turn (by rw [turnS_length]; exact hb)
  rwa [turnS_turnS hg] at this
/-- One edge more. -/
theorem turn_step {g : List (List Int)} (hg : GrP g) {x k : Int} (hx : inN x g.length) (hk : inN k (atD g x).length) {out : List (List Int)} (hl : out.length = g.length)
    (h : ∀ j, inN j g.length → atD out j = turnRow g x.toNat j ++ (if j ∈ (atD g x).take k.toNat then [x] else [])) :
    inN (atD (atD g x) k) out.length ∧ (atD out (atD (atD g x) k)).length ≤ 81 ∧ (setD out (atD (atD g x) k) (atD out (atD (atD g x) k) ++ [x])).length = g.length ∧
    ∀ j, inN j g.length → atD (setD out (atD (atD g x) k) (atD out (atD (atD g x) k) ++ [x])) j = turnRow g x.toNat j ++ (if j ∈ (atD g x).take (k + 1).toNat then [x] else []) := by
  have hr := hg.row x hx
  have hj0 := hg.rng x hx _ (atD_mem hk)
  have ht := take_atD hk
  have hnd : (atD g x).take k.toNat ++ [atD (atD g x) k] <+: atD g x := ht ▸ List.take_prefix _ _
  have hnot : atD (atD g x) k ∉ (atD g x).take k.toNat := fun hm => by
    have := hr.nodup.sublist hnd.sublist
    rw [List.nodup_append] at this
    exact this.2.2 _ hm _ List.mem_cons_self rfl
  generalize hJ : atD (atD g x) k = j0 at *
  have hjo : inN j0 out.length := by rw [hl]; exact hj0
  have hlen := hg.len
  refine ⟨hjo, ?_, by rw [length_setD]; exact hl, fun j hj => ?_⟩
  · rw [h j0 hj0, List.length_append]
    have := turnRow_length g x.toNat j0
    have := hx.1
    have := hx.2
    split <;> simp <;> omega
  · rw [atD_setD hjo hj.1, ht]
    by_cases he : j = j0
    · subst he
      rw [if_pos rfl, h j hj, if_neg hnot, if_pos (List.mem_append_right _ List.mem_cons_self)]
      simp
    · rw [if_neg he, h j hj]
      have : j ∈ (atD g x).take k.toNat ++ [j0] ↔ j ∈ (atD g x).take k.toNat := by simp [he]
      simp only [this]
theorem turn_end {g : List (List Int)} {x k : Int} (hx : inN x g.length) (hk : ((atD g x).length : Int) ≤ k) {out : List (List Int)}
    (h : ∀ j, inN j g.length → atD out j = turnRow g x.toNat j ++ (if j ∈ (atD g x).take k.toNat then [x] else [])) : ∀ j, inN j g.length → atD out j = turnRow g (x + 1).toNat j := fun j hj => by
  have e : (x + 1).toNat = x.toNat + 1 := by have := hx.1; omega
  have e2 : ((x.toNat : Nat) : Int) = x := Int.toNat_of_nonneg hx.1
  rw [h j hj, take_all hk, e, turnRow_succ, e2]
theorem turn_done {g out : List (List Int)} {x : Int} (hl : out.length = g.length) (hx : x = g.length) (h : ∀ j, inN j g.length → atD out j = turnRow g x.toNat j) : out = turnS g := by
  refine ext27 (by rw [turnS_length]; exact hl) fun j hj => ?_
  rw [hl] at hj
  rw [h j hj, turnS_at hj, hx, Int.toNat_natCast]
theorem turn27_sp (g : List (List Int)) (hg : GrP g) : WP (callgraph_Turn g) (· = turnS g) := by
  have hlen := hg.len
  unfold callgraph_Turn
  refine WP.chk ⟨by omega, by omega⟩ fun _ => ?_
  refine WP.loop (fun z => 0 ≤ z.1 ∧ z.1 ≤ g.length ∧ z.2.length = g.length ∧ ∀ j, inN j g.length → atD z.2 j = turnRow g z.1.toNat j) (fun z => g.length - z.1.toNat) ⟨Int.le_refl _, by dsimp only; omega, by dsimp only; rw [length_repD]; omega, fun j hj => by dsimp only; rw [rep27]; rfl⟩ ?_
  rintro again ⟨x, out⟩ ⟨h1, h2, h3, h4⟩ ih
  dsimp only at h1 h2 h3 h4 ih ⊢
  refine WP.bif (fun wh => ?_) (fun wh => ?_) <;> (try simp only [wpH, ne_eq] at wh)
  · have hx : inN x g.length := ⟨h1, wh⟩
    have hrl := (hg.row x hx).length
    refine WP.chk hx fun _ => ?_
    refine WP.loop (fun z => 0 ≤ z.1 ∧ z.1 ≤ (atD g x).length ∧ z.2.length = g.length ∧ ∀ j, inN j g.length → atD z.2 j = turnRow g x.toNat j ++ (if j ∈ (atD g x).take z.1.toNat then [x] else [])) (fun z => (atD g x).length - z.1.toNat) ⟨Int.le_refl _, by dsimp only; omega, h3, fun j hj => by dsimp only; rw [h4 j hj]; simp⟩ ?_
    rintro again2 ⟨k, out2⟩ ⟨g1, g2, g3, g4⟩ ih2
    dsimp only at g1 g2 g3 g4 ih2 ⊢
    refine WP.bif (fun wh => ?_) (fun wh => ?_) <;> (try simp only [wpH, ne_eq] at wh)
    · have hk : inN k (atD g x).length := ⟨g1, wh⟩
      obtain ⟨q1, q2, q3, q4⟩ := turn_step hg hx hk g3 g4
      refine WP.chk hk fun _ => WP.chk q1 fun _ => WP.chk (by simp only [List.length_singleton]; omega) fun _ => WP.chk q1 fun _ => WP.chk ⟨by omega, by omega⟩ fun _ => ?_
      exact ih2 _ ⟨by dsimp only; omega, by dsimp only; omega, q3, q4⟩ (by dsimp only; omega)
    · refine WP.chk ⟨by omega, by omega⟩ fun _ => ?_
      exact ih _ ⟨by dsimp only; omega, by dsimp only; omega, g3, turn_end hx wh g4⟩ (by dsimp only; omega)
  · exact WP.ret (turn_done h3 (by omega) h4)
theorem turn27r_sp (g : List (List Int)) (hg : GrP g) : WP (r27_Turn g) (· = turnS g) := by
  have hlen := hg.len
  unfold r27_Turn
  refine WP.chk ⟨by omega, by omega⟩ fun _ => ?_
  refine WP.loop (fun z => 0 ≤ z.1 ∧ z.1 ≤ g.length ∧ z.2.length = g.length ∧ ∀ j, inN j g.length → atD z.2 j = turnRow g z.1.toNat j) (fun z => g.length - z.1.toNat) ⟨Int.le_refl _, by dsimp only; omega, by dsimp only; rw [length_repD]; omega, fun j hj => by dsimp only; rw [rep27]; rfl⟩ ?_
  rintro again ⟨x, out⟩ ⟨h1, h2, h3, h4⟩ ih
  dsimp only at h1 h2 h3 h4 ih ⊢
  refine WP.bif (fun wh => ?_) (fun wh => ?_) <;> (try simp only [wpH, ne_eq] at wh)
  · have hx : inN x g.length := ⟨h1, wh⟩
    have hrl := (hg.row x hx).length
    refine WP.loop (fun z => 0 ≤ z.1 ∧ z.1 ≤ (atD g x).length ∧ z.2.length = g.length ∧ ∀ j, inN j g.length → atD z.2 j = turnRow g x.toNat j ++ (if j ∈ (atD g x).take z.1.toNat then [x] else [])) (fun z => (atD g x).length - z.1.toNat) ⟨Int.le_refl _, by dsimp only; omega, h3, fun j hj => by dsimp only; rw [h4 j hj]; simp⟩ ?_
    rintro again2 ⟨k, out2⟩ ⟨g1, g2, g3, g4⟩ ih2
    dsimp only at g1 g2 g3 g4 ih2 ⊢
    refine WP.chk hx fun _ => ?_
    refine WP.bif (fun wh => ?_) (fun wh => ?_) <;> (try simp only [wpH, ne_eq] at wh)
    · have hk : inN k (atD g x).length := ⟨g1, wh⟩
      obtain ⟨q1, q2, q3, q4⟩ := turn_step hg hx hk g3 g4
      refine WP.chk hx fun _ => WP.chk hk fun _ => WP.chk hx fun _ => WP.chk hk fun _ => WP.chk q1 fun _ => WP.chk (by simp only [List.length_singleton]; omega) fun _ => WP.chk q1 fun _ => WP.chk ⟨by omega, by omega⟩ fun _ => ?_
      exact ih2 _ ⟨by dsimp only; omega, by dsimp only; omega, q3, q4⟩ (by dsimp only; omega)
    · refine WP.chk ⟨by omega, by omega⟩ fun _ => ?_
      exact ih _ ⟨by dsimp only; omega, by dsimp only; omega, g3, turn_end hx wh g4⟩ (by dsimp only; omega)
  · exact WP.ret (turn_done h3 (by omega) h4)
end Go.Proofs.YtmefipdgohflmaaDoor.Q
