/- Frames that are too great: the law. -/
import Derived.Test.YtbppgdffochdmaaP24c
set_option linter.unusedVariables false
set_option linter.unusedSimpArgs false
namespace Go.Proofs.Ytbppgdffochdmaa.Q
def bigS : ASlot := ⟨8, 16777216⟩
def bigP (s : List ASlot) : AProgram := ⟨[⟨0, s, [⟨23, 0, 0, 0, 0⟩]⟩]⟩
theorem bigS_ok : okS bigS := ⟨by decide, by decide, by decide⟩
theorem big_off : ∀ m : Nat, (offL 0 (List.replicate m bigS)).2 = if m = 0 then 0 else ((m : Int) - 1) * 16777216 + 8
  | 0 => rfl
  | m + 1 => by
    have h := big_off m
    rw [List.replicate_succ', offL_snoc]
    show upZ (offL 0 (List.replicate m bigS)).2 16777216 + 8 = _
    rw [h]
    unfold upZ
    split <;> simp <;> omega
theorem bigArgs_sp (s : List ASlot) : WP (pack_Args (bigP s) 0) (· = 0) := by
  unfold pack_Args
  refine WP.chk (by simp [bigP]) fun _ => ?_
  refine WP.iter 2 ?_
  simp [M.iter, WP.bif_iff, WP.chk_iff, WP.ret_iff, atD, okI, bigP]
theorem rbigArgs_sp (s : List ASlot) : WP (r24_Args (bigP s) 0) (· = 0) := by
  unfold r24_Args
  refine WP.chk (by simp [bigP]) fun _ => ?_
  refine WP.iter 2 ?_
  simp [M.iter, WP.bif_iff, WP.chk_iff, WP.ret_iff, atD, okI, bigP]
theorem pl_PackOverflows (x : Int) (h : -128 ≤ x ∧ x ≤ 127) : WP (law24_PackOverflows x) (· = true) := by
  unfold law24_PackOverflows
  refine WP.call awake24_sp ?_
  rintro _ rfl
  refine WP.bif (fun wh => by cases wh) fun _ => ?_
  refine WP.chk ⟨by omega, by omega⟩ fun _ => ?_
  refine WP.chk (by decide) fun _ => ?_
  have ht : -2 ≤ x.tmod 3 ∧ x.tmod 3 ≤ 2 := by
    rcases Int.le_total 0 x with h | h
    · rw [Int.tmod_eq_emod_of_nonneg h]; omega
    · obtain ⟨y, hy, rfl⟩ : ∃ y : Int, 0 ≤ y ∧ x = -y := ⟨-x, by omega, by omega⟩
      rw [Int.neg_tmod, Int.tmod_eq_emod_of_nonneg hy]; omega
  generalize x.tmod 3 = t at *
  refine WP.chk ⟨by omega, by omega⟩ fun _ => ?_
  obtain ⟨n, hn⟩ : ∃ n : Int, n = 127 + t := ⟨_, rfl⟩
  rw [← hn]
  refine WP.loop (fun j => (0 ≤ j.1 ∧ j.1 ≤ n) ∧ j.2 = List.replicate j.1.toNat bigS) (fun j => n.toNat - j.1.toNat) ⟨⟨by simp, by dsimp only; omega⟩, rfl⟩ ?_
  rintro again ⟨k, s⟩ ⟨⟨a1, a2⟩, a3⟩ ih
  dsimp only at a1 a2 a3 ih ⊢
  have hsl : s.length = k.toNat := by rw [a3, List.length_replicate]
  refine WP.bif (fun wh => ?_) (fun wh => ?_) <;> (try simp only [decide_eq_true_eq, decide_eq_false_iff_not, Bool.not_eq_true', Bool.not_eq_false', Bool.and_eq_true, Bool.or_eq_true, Bool.not_eq_true, Bool.not_eq_false, Int.not_lt, Int.not_le, ne_eq] at wh)
  · have hkl := wh
    refine WP.chk (by simp only [List.length_singleton]; omega) fun _ => ?_
    refine WP.chk ⟨by omega, by omega⟩ fun _ => ?_
    refine ih _ ⟨⟨by dsimp only; omega, by dsimp only; omega⟩, ?_⟩ (by dsimp only; omega)
    dsimp only
    rw [show (k + 1).toNat = k.toNat + 1 by omega, List.replicate_succ', a3]
    rfl
  · have hk : k = n := by omega
    subst hk
    change WP (M.call (pack_Baseline (bigP s) 0 16777216) _) _
    have hi : inN 0 (bigP s).Funcs.length := ⟨by decide, by simp [bigP]⟩
    have hS : (atD (bigP s).Funcs 0).Slots = s := rfl
    have hok : ∀ y ∈ (atD (bigP s).Funcs 0).Slots, okS y := fun y hy => by
      rw [hS, a3] at hy
      rw [List.eq_of_mem_replicate hy]
      exact bigS_ok
    have hB := baseline_sp (al := 16777216) hi (bigArgs_sp s) (by omega) (by omega) hok (by rw [hS]; omega) (by decide)
    have hC := rbaseline_sp (al := 16777216) hi (rbigArgs_sp s) (by omega) (by omega) hok (by rw [hS]; omega) (by decide)
    rw [hS] at hB hC
    have hz : upZ (offL 0 s).2 16777216 = k * 16777216 := by
      rw [a3, big_off, if_neg (by omega)]
      unfold upZ
      omega
    have hbase : baseR 0 s 16777216 = if 127 < k then (⟨0, 0, []⟩, 9) else (⟨0, k * 16777216, (offL 0 s).1⟩, 0) := by
      unfold baseR
      rw [hz]
      by_cases hk : 127 < k
      · rw [if_pos (by omega), if_pos hk]
      · rw [if_neg (by omega), if_neg hk]
    rw [hbase] at hB hC
    refine WP.call hB ?_
    intro y hy
    rw [hy]
    clear hy y
    refine WP.call hC ?_
    intro y hy
    rw [hy]
    clear hy y
    refine WP.chk ⟨by omega, by omega⟩ fun _ => ?_
    have hrep : ∀ c : Int, atD (repD k : List Int) c = 0 := fun c => by
      unfold atD repD
      rw [List.getD_eq_getElem?_getD, List.getElem?_replicate]
      split <;> rfl
    have hsz : ∀ c, inN c s.length → (atD s c).Size = 8 := fun c hc => by
      have := atD_mem hc
      rw [a3] at this
      rw [← a3] at this
      have h2 : atD s c ∈ List.replicate k.toNat bigS := by rw [← a3]; exact this
      rw [List.eq_of_mem_replicate h2]
      rfl
    have hFi := finish_sp (off := (repD k : List Int)) (al := 16777216) hi (bigArgs_sp s) (by omega) (by omega) (by rw [hS]; omega) (by decide) (by rw [hS, length_repD]; omega) (by
      rw [hS]
      intro c hc
      rw [hrep, hsz c hc]
      decide)
    rw [hS] at hFi
    refine WP.call hFi fun x4 ⟨E, ⟨q1, q2, q3⟩, hx4⟩ => ?_
    have hE : E = 8 := by
      have h1 := q2 0 ⟨by omega, by omega⟩
      rw [hrep, hsz 0 ⟨by omega, by omega⟩] at h1
      rcases q3 with q | ⟨c, c1, c2⟩
      · omega
      · rw [hrep, hsz c c1] at c2; omega
    subst hE
    have hu : upZ (max (max 0 0) 8) 16777216 = 16777216 := by decide
    rw [hu, if_neg (by decide)] at hx4
    subst hx4
    refine WP.bif (fun _ => ?_) (fun wh => by simp at wh)
    have hol := offL_len 0 s
    refine WP.call (same24_sp _ (by split <;> simp <;> omega)) ?_
    rintro _ rfl
    refine WP.bif (fun _ => ?_) (fun wh => by cases wh)
    refine WP.bif (fun _ => ?_) (fun wh => ?_)
    · refine WP.bif (fun _ => WP.ret rfl) (fun wh => by simp at wh)
    · exfalso
      revert wh
      by_cases hk : 127 < k
      · rw [if_pos hk]; simp; omega
      · rw [if_neg hk]; simp; omega
end Go.Proofs.Ytbppgdffochdmaa.Q
