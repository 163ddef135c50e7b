/- The bound is the greatest sum over all ways; the law BoundIsTheGreatestSum. -/
import Derived.Test.YtpjmpkgllnomaaaDoorP29d
set_option linter.unusedVariables false
set_option linter.unusedSimpArgs false
namespace Go.Proofs.YtpjmpkgllnomaaaDoor.Q
def sumF (w l : List Int) : Int := l.foldl (fun n a => n + atD w a) 0
theorem sumF_snoc (w l : List Int) (a : Int) : sumF w (l ++ [a]) = sumF w l + atD w a := by unfold sumF; rw [List.foldl_append]; rfl
theorem sum29_sp (w l : List Int) (hl : l.length ≤ 1000) (hr : ∀ a ∈ l, inN a w.length) (hw : ∀ a, inN a w.length → 0 ≤ atD w a ∧ atD w a ≤ 1000) : WP (r29_Sum w l) (· = sumF w l) := by
  unfold r29_Sum
  refine WP.loop (fun z => 0 ≤ z.2 ∧ z.2 ≤ l.length ∧ z.1 = sumF w (l.take z.2.toNat) ∧ 0 ≤ z.1 ∧ z.1 ≤ 1000 * z.2) (fun z => l.length - z.2.toNat) ⟨Int.le_refl _, by dsimp only; omega, rfl, Int.le_refl _, by dsimp only; omega⟩ ?_
  rintro again ⟨n, i⟩ ⟨a1, a2, a3, a4, a5⟩ ih
  dsimp only at a1 a2 a3 a4 a5 ih ⊢
  refine WP.bif (fun wh => ?_) (fun wh => ?_)
  · have hi : inN i l.length := ⟨a1, of_decide_eq_true wh⟩
    have hi2 := hi.2
    have hm := hr _ (atD_mem hi)
    have hwm := hw _ hm
    have ht := take_atD hi
    refine WP.chk hi fun _ => WP.bif (fun _ => ?_) (fun wb => absurd hm.1 (of_decide_eq_false wb))
    refine WP.chk hi fun _ => WP.bif (fun _ => ?_) (fun wb => absurd hm.2 (of_decide_eq_false wb))
    refine WP.chk hi fun _ => WP.chk hm fun _ => WP.chk ⟨by omega, by omega⟩ fun _ => WP.chk ⟨by omega, by omega⟩ fun _ => ?_
    exact ih _ ⟨by dsimp only; omega, by dsimp only; omega, by dsimp only; rw [ht, sumF_snoc, a3], by dsimp only; omega, by dsimp only; omega⟩ (by dsimp only; omega)
  · have hi : ¬ i < (l.length : Int) := of_decide_eq_false wh
    rw [take_all (by omega)] at a3
    exact WP.ret a3
theorem bestR_max {B row : List Int} {j : Int} (hj : j ∈ row) : atD B j ≤ atD B (bestR B row) := by
  have key : ∀ (l : List Int) (b : Int), atD B b ≤ atD B (l.foldl (bestF B) b) ∧ ∀ j ∈ l, atD B j ≤ atD B (l.foldl (bestF B) b) := fun l => by
    induction l with
    | nil => exact fun b => ⟨Int.le_refl _, fun j hj => by cases hj⟩
    | cons x r ih =>
      intro b
      rw [List.foldl_cons]
      obtain ⟨h1, h2⟩ := ih (bestF B b x)
      have h3 : atD B b ≤ atD B (bestF B b x) ∧ atD B x ≤ atD B (bestF B b x) := by
        unfold bestF
        split <;> omega
      refine ⟨by omega, fun j hj => ?_⟩
      rcases List.mem_cons.1 hj with rfl | hj
      · omega
      · exact h2 j hj
  exact (key row _).2 j hj
section
variable {g : List (List Int)} {o w B : List Int}
theorem ways_in (hg : GrP g) : ∀ (d : Nat) (u : List Int) (x : Int), inN x g.length → (∀ a ∈ u, inN a g.length) → ∀ y ∈ waysS g d u x, ∀ a ∈ y, inN a g.length
  | 0, _, _, _, _, y, hy => by cases hy
  | d + 1, u, x, hx, hu, y, hy => by
    have hy' : y ∈ (if atD g x = [] then [u] else (atD g x).flatMap fun j => waysS g d (u ++ [j]) j) := hy
    split at hy'
    · rw [one_mem hy']; exact hu
    · obtain ⟨j, hj, hjy⟩ := List.mem_flatMap.1 hy'
      have hjr := hg.rng x hx j hj
      refine ways_in hg d (u ++ [j]) j hjr (fun a ha => ?_) y hjy
      rcases List.mem_append.1 ha with q | q
      · exact hu a q
      · rw [one_mem q]; exact hjr
theorem ways_le (hg : GrP g) (hB : BndP g w B) : ∀ (d : Nat) (u : List Int) (x : Int), inN x g.length → ∀ y ∈ waysS g d u x, sumF w y ≤ sumF w u - atD w x + atD B x
  | 0, _, _, _, y, hy => by cases hy
  | d + 1, u, x, hx, y, hy => by
    have hv := hB.val x hx
    have hy' : y ∈ (if atD g x = [] then [u] else (atD g x).flatMap fun j => waysS g d (u ++ [j]) j) := hy
    split at hy'
    · have := bR_nonneg B (atD g x)
      rw [one_mem hy']; omega
    · obtain ⟨j, hj, hjy⟩ := List.mem_flatMap.1 hy'
      have h1 := ways_le hg hB d (u ++ [j]) j (hg.rng x hx j hj) y hjy
      have h2 := bR_mem (l := B) hj
      rw [sumF_snoc] at h1
      omega
theorem path_in (hg : GrP g) (ho : TopoP g o) (hB : BndP g w B) (hn : ∀ a, inN a g.length → 0 ≤ atD B a) : ∀ (f d : Nat) (u : List Int) (x : Int), inN x g.length → o.idxOf x ≤ f → o.idxOf x < d → u ++ pathS g B f x ∈ waysS g d u x ∧ sumF w (u ++ pathS g B f x) = sumF w u - atD w x + atD B x
  | f, 0, u, x, hx, _, hd => by omega
  | 0, d + 1, u, x, hx, hf, hd => by
    have h0 : atD g x = [] := Classical.byContradiction fun q => by
      obtain ⟨j, hj⟩ := List.exists_mem_of_ne_nil _ q
      have := ho.idx hx hj
      omega
    have hv := hB.val x hx
    rw [h0] at hv
    have hz : bR B [] = 0 := rfl
    have e : pathS g B 0 x = [] := rfl
    rw [e, List.append_nil]
    refine ⟨?_, by omega⟩
    show u ∈ (if atD g x = [] then [u] else _)
    rw [if_pos h0]; simp
  | f + 1, d + 1, u, x, hx, hf, hd => by
    have hv := hB.val x hx
    show u ++ (if atD g x = [] then [] else bestR B (atD g x) :: pathS g B f (bestR B (atD g x))) ∈ (if atD g x = [] then [u] else (atD g x).flatMap fun j => waysS g d (u ++ [j]) j) ∧ sumF w (u ++ (if atD g x = [] then [] else bestR B (atD g x) :: pathS g B f (bestR B (atD g x)))) = _
    by_cases h0 : atD g x = []
    · rw [if_pos h0, if_pos h0]
      rw [h0] at hv
      have hz : bR B [] = 0 := rfl
      rw [List.append_nil]
      exact ⟨by simp, by omega⟩
    · rw [if_neg h0, if_neg h0]
      have hm := bestR_mem (B := B) h0
      have hj := hg.rng x hx _ hm
      have hji := ho.idx hx hm
      have hbest : atD B (bestR B (atD g x)) = bR B (atD g x) := by
        have h1 := bR_mem (l := B) hm
        have h2 := bR_le (l := B) (r := atD g x) (c := atD B (bestR B (atD g x))) (hn _ hj) fun b hb => bestR_max hb
        omega
      generalize bestR B (atD g x) = j at hm hj hji hbest ⊢
      obtain ⟨q1, q2⟩ := path_in hg ho hB hn f d (u ++ [j]) j hj (by omega) (by omega)
      have e : u ++ j :: pathS g B f j = u ++ [j] ++ pathS g B f j := by simp
      rw [e]
      refine ⟨List.mem_flatMap.2 ⟨j, hm, q1⟩, ?_⟩
      rw [q2, sumF_snoc]
      omega
def pw29 (n : Nat) (j : Int) : Nat := 2 ^ (n - 1 - j.toNat)
theorem sumpow29 (n : Nat) : ∀ (row : List Int) (a : Int), row.Pairwise (· < ·) → (∀ j ∈ row, a ≤ j ∧ j < n) → 0 ≤ a → a ≤ n → (row.map (pw29 n)).sum + 1 ≤ 2 ^ (n - a.toNat)
  | [], a, _, _, _, _ => by simp; exact Nat.one_le_two_pow
  | j :: r, a, hp, hr, h0, hn => by
    have hj := hr j List.mem_cons_self
    obtain ⟨p1, p2⟩ := List.pairwise_cons.1 hp
    have ih := sumpow29 n r (j + 1) p2 (fun k hk => by have := p1 k hk; have := (hr k (List.mem_cons_of_mem _ hk)).2; omega) (by omega) (by omega)
    have e : n - (j + 1).toNat = n - 1 - j.toNat := by omega
    rw [e] at ih
    have h2 : 2 ^ (n - 1 - j.toNat + 1) ≤ 2 ^ (n - a.toNat) := Nat.pow_le_pow_right (by decide) (by omega)
    rw [Nat.pow_succ] at h2
    simp only [List.map_cons, List.sum_cons]
    unfold pw29 at ih ⊢
    omega
theorem flat_len29 {α β : Type} {f : α → List β} {h : α → Nat} : ∀ {l : List α}, (∀ j ∈ l, (f j).length ≤ h j) → (l.flatMap f).length ≤ (l.map h).sum
  | [], _ => by simp
  | a :: r, q => by
    have h1 := q a List.mem_cons_self
    have h2 := flat_len29 fun j hj => q j (List.mem_cons_of_mem _ hj)
    simp only [List.flatMap_cons, List.length_append, List.map_cons, List.sum_cons]
    omega
theorem ways_count (hg : GrP g) (hup : ∀ i, inN i g.length → ∀ y ∈ atD g i, i < y) : ∀ (d : Nat) (u : List Int) (x : Int), inN x g.length → (waysS g d u x).length ≤ pw29 g.length x
  | 0, _, _, _ => Nat.zero_le _
  | d + 1, u, x, hx => by
    show (if atD g x = [] then [u] else (atD g x).flatMap fun j => waysS g d (u ++ [j]) j).length ≤ _
    split
    · exact Nat.one_le_two_pow
    · have h1 := flat_len29 (l := atD g x) (f := fun j => waysS g d (u ++ [j]) j) (h := pw29 g.length) fun j hj => ways_count hg hup d (u ++ [j]) j (hg.rng x hx j hj)
      have h2 := sumpow29 g.length (atD g x) (x + 1) (hg.row x hx).asc (fun j hj => ⟨by have := hup x hx j hj; omega, (hg.rng x hx j hj).2⟩) (by have := hx.1; omega) (by have := hx.2; omega)
      have e : g.length - (x + 1).toNat = g.length - 1 - x.toNat := by have := hx.1; omega
      rw [e] at h2
      unfold pw29 at h1 ⊢
      unfold pw29 at h2
      omega
end
theorem pl_BoundIsTheGreatestSum (cs : List Int) (hcs : isU8 cs) : WP (law29_BoundIsTheGreatestSum cs) (· = true) := by
  unfold law29_BoundIsTheGreatestSum
  refine WP.call awake29_sp ?_
  rintro _ rfl
  refine WP.bif (fun wh => absurd wh (by decide)) (fun _ => ?_)
  refine WP.call (new_sp cs 120 hcs (by omega)) fun x2 hx2 => ?_
  refine WP.call (graph27_sp x2 7 true hx2 (by omega)) ?_
  rintro ⟨g, c3⟩ ⟨hc3, hg, h7, hup⟩
  dsimp only at hc3 hg h7 hup ⊢
  have hup := hup rfl
  have hlen := hg.len
  refine WP.loop (fun z => 0 ≤ z.1 ∧ z.1 ≤ g.length ∧ okC z.2.1 ∧ (z.2.2.length : Int) = z.1 ∧ ∀ a, inN a z.1 → 0 ≤ atD z.2.2 a ∧ atD z.2.2 a ≤ 1000) (fun z => g.length - z.1.toNat) ⟨Int.le_refl _, by dsimp only; omega, hc3, rfl, fun a ha => by have h1 := ha.1; have h2 : a < 0 := ha.2; omega⟩ ?_
  rintro again ⟨i, c, w⟩ ⟨h1, h2, h3, h4, h5⟩ ih
  dsimp only at h1 h2 h3 h4 h5 ih ⊢
  refine WP.bif (fun wh => ?_) (fun wh => ?_)
  · have hlt : i < (g.length : Int) := of_decide_eq_true wh
    refine WP.call (next_sp _ 20 h3 (by omega)) fun x4 ⟨a1, a2, a3, _⟩ => ?_
    have a3 := a3 (by omega)
    refine WP.chk ⟨by omega, by omega⟩ fun _ => WP.chk (by simp only [List.length_cons, List.length_nil]; omega) fun _ => WP.chk ⟨by omega, by omega⟩ fun _ => ?_
    refine ih _ ⟨by dsimp only; omega, by dsimp only; omega, a1, by dsimp only; simp only [List.length_append, List.length_cons, List.length_nil]; omega, fun a ha => ?_⟩ (by dsimp only; omega)
    have ha2 : a < i + 1 := ha.2
    have ha1 := ha.1
    dsimp only
    by_cases e : a = i
    · rw [atD_last (by omega)]; omega
    · rw [atD_append_left (by omega)]
      exact h5 a ⟨ha1, by omega⟩
  have hge : ¬ i < (g.length : Int) := of_decide_eq_false wh
  have hwl : w.length = g.length := by omega
  have hw : ∀ a, inN a g.length → 0 ≤ atD w a ∧ atD w a ≤ 1000 := fun a ha => h5 a ⟨ha.1, by have := ha.2; omega⟩
  have hw' : ∀ a, inN a w.length → 0 ≤ atD w a ∧ atD w a ≤ 1000 := fun a ha => hw a (by rw [← hwl]; exact ha)
  refine WP.call (all29_sp g w (by omega) (by omega)) fun x5 h5' => ?_
  refine WP.call (path29_sp g w (by omega) (by omega)) ?_
  rintro _ ⟨y, hy, rfl⟩
  rw [hy.uniq h5']
  refine WP.call (paths29_sp g 4096 (by omega)) ?_
  rintro _ rfl
  obtain ⟨e5, hB⟩ := h5'.small hg hup hwl hw
  have hac := Acyc.of_up hg hup
  obtain ⟨eo, ho⟩ := orderS_ok hg hac
  have h00 : inN 0 g.length := ⟨Int.le_refl 0, by omega⟩
  have hn : ∀ a, inN a g.length → 0 ≤ atD x5.1 a := fun a ha => (hB.small hg hup (c := 1000) (by omega) hw g.length a ha (by have := ha.1; omega)).1
  have hcnt := ways_count hg hup ((orderS g).1.idxOf 0 + 1) [0] 0 h00
  have hc64 : pw29 g.length 0 ≤ 2 ^ 6 := Nat.pow_le_pow_right (by decide) (by omega)
  have eW : pathsR g 4096 = (waysO g (orderS g).1 [0] 0, 0) := by
    unfold pathsR
    rw [if_neg (by rintro (q | q | q); · rw [checkG_iff.2 hg] at q; cases q
                   · exact absurd q (by decide)
                   · exact absurd q (by decide)), if_neg (fun q => q eo), if_neg (by unfold waysO; omega)]
  have eP : pathR g x5 = (0 :: pathS g x5.1 g.length 0, 0) := by unfold pathR; rw [if_pos e5]
  have hidx : (orderS g).1.idxOf 0 ≤ g.length := by
    have h1 : (orderS g).1.idxOf 0 ≤ (orderS g).1.length := List.idxOf_le_length
    have := ho.len
    omega
  obtain ⟨p1, p2⟩ := path_in hg ho hB hn g.length ((orderS g).1.idxOf 0 + 1) [0] 0 h00 hidx (Nat.lt_succ_self _)
  have hle := ways_le hg hB ((orderS g).1.idxOf 0 + 1) [0] 0 h00
  have hin := ways_in hg ((orderS g).1.idxOf 0 + 1) [0] 0 h00 (fun a ha => by rw [one_mem ha]; exact h00)
  have hwlen := waysS_len (g := g) ((orderS g).1.idxOf 0 + 1) [0] 0
  have e0 : sumF w [0] = atD w 0 := by unfold sumF; simp
  rw [e0] at hle p2
  rw [eW, eP]
  dsimp only
  have ep : [0] ++ pathS g x5.1 g.length 0 = 0 :: pathS g x5.1 g.length 0 := rfl
  rw [ep] at p1 p2
  unfold waysO
  have h0p : ∀ y ∈ waysS g ((orderS g).1.idxOf 0 + 1) [0] 0, y.length ≤ 1000 := fun y hy => by
    have q1 := hwlen y hy
    have q2 := ho.small hg 0
    simp only [List.length_cons, List.length_nil] at q1
    omega
  generalize waysS g ((orderS g).1.idxOf 0 + 1) [0] 0 = W at *
  generalize 0 :: pathS g x5.1 g.length 0 = P at *
  rw [e5]
  refine WP.bif (fun wh => absurd wh (by simp)) fun _ => ?_
  refine WP.bif (fun wh => absurd wh (by simp)) fun _ => ?_
  refine WP.bif (fun wh => absurd wh (by simp)) fun _ => ?_
  refine WP.bif (fun wh => absurd wh (by rw [hB.len]; simp)) fun _ => ?_
  have hWl : W.length ≤ 64 := by omega
  refine WP.loop (fun z => z.1 = w ∧ 0 ≤ z.2.2.2 ∧ z.2.2.2 ≤ W.length ∧ 0 ≤ z.2.1 ∧ z.2.1 ≤ atD x5.1 0 ∧ (∀ y ∈ W.take z.2.2.2.toNat, sumF w y ≤ z.2.1) ∧ (P ∈ W.take z.2.2.2.toNat → z.2.2.1 = true)) (fun z => W.length - z.2.2.2.toNat)
    ⟨rfl, Int.le_refl _, by dsimp only; omega, Int.le_refl _, hn 0 h00, fun y hy => by simp at hy, fun hy => by simp at hy⟩ ?_
  rintro again2 ⟨w2, most, found, k⟩ ⟨b1, b2, b3, b4, b5, b6, b7⟩ ih2
  dsimp only at b1 b2 b3 b4 b5 b6 b7 ih2 ⊢
  subst b1
  refine WP.bif (fun wh => ?_) (fun wh => ?_)
  · have hk : inN k W.length := ⟨b2, of_decide_eq_true wh⟩
    have hk2 := hk.2
    have hm := atD_mem hk
    have ht := take_atD hk
    have hsl := hle _ hm
    refine WP.chk hk fun _ => ?_
    refine WP.call (sum29_sp w2 (atD W k) (h0p _ hm) (fun a ha => by rw [hwl]; exact hin _ hm a ha) hw') ?_
    rintro _ rfl
    have hstep : ∀ f' : Bool, (P ∈ W.take (k + 1).toNat → f' = true) → WP (again2 (w2, max most (sumF w2 (atD W k)), f', k + 1)) (· = true) := fun f' hf' => by
      refine ih2 _ ⟨rfl, by dsimp only; omega, by dsimp only; omega, by dsimp only; omega, by dsimp only; omega, fun y hy => ?_, hf'⟩ (by dsimp only; omega)
      dsimp only at hy ⊢
      rw [ht] at hy
      rcases List.mem_append.1 hy with q | q
      · have := b6 y q; omega
      · rw [one_mem q]; omega
    refine WP.bif (fun wf => ?_) (fun wf => ?_)
    · exact WP.chk ⟨by omega, by omega⟩ fun _ => hstep true fun _ => rfl
    · refine WP.chk hk fun _ => ?_
      refine WP.call (same_sp _ _ (by have := h0p _ hm; omega)) ?_
      rintro _ rfl
      refine WP.chk ⟨by omega, by omega⟩ fun _ => hstep _ fun hP => ?_
      rw [ht] at hP
      rcases List.mem_append.1 hP with q | q
      · have := b7 q
        have wf' : found = false := wf
        rw [wf'] at this; cases this
      · rw [decide_eq_true_eq]; exact (one_mem q).symm
  · have hk : ¬ k < (W.length : Int) := of_decide_eq_false wh
    rw [take_all (by omega)] at b6 b7
    have hf := b7 p1
    have hmost : most = atD x5.1 0 := by
      have := b6 P p1
      omega
    have hpos : 0 < W.length := List.length_pos_of_mem p1
    rw [hf, hmost]
    refine WP.bif (fun _ => ?_) (fun wb => absurd (by omega : (0 : Int) < (W.length : Int)) (of_decide_eq_false wb))
    refine WP.bif (fun _ => ?_) (fun wb => by cases wb)
    refine WP.chk ⟨by omega, by rw [hB.len]; omega⟩ fun _ => ?_
    refine WP.bif (fun _ => ?_) (fun wb => absurd rfl (of_decide_eq_false wb))
    refine WP.call (sum29_sp w2 P (h0p _ p1) (fun a ha => by rw [hwl]; exact hin _ p1 a ha) hw') ?_
    rintro _ rfl
    exact WP.ret (decide_eq_true (by omega))
end Go.Proofs.YtpjmpkgllnomaaaDoor.Q
