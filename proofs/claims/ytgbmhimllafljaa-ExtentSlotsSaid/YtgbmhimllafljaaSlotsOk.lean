/- Sizes and slots: value.Size, the search for a wrong slot. -/
import Derived.Test.YtgbmhimllafljaaSlots
import Derived.Test.YtgbmhimllafljaaExtentLaw
import Derived.Deep.RegionHeld3
namespace Go.Proofs.Ytgbmhimllafljaa
open Go.RowKit
def sizeB (n : Int) : Bool := n == 1 || n == 2 || n == 4 || n == 8 || n == 16
theorem sizeB_iff (n : Int) : sizeB n = true ↔ SizeOk n := by simp [sizeB, SizeOk, or_assoc]
theorem sizeB_bits {n : Int} (h1 : 1 ≤ n) (h2 : n ≤ 16) : (bits BinOp.and IntKind.i64 n (n - 1) == 0) = sizeB n := by
  have : n = 1 ∨ n = 2 ∨ n = 3 ∨ n = 4 ∨ n = 5 ∨ n = 6 ∨ n = 7 ∨ n = 8 ∨ n = 9 ∨ n = 10 ∨ n = 11 ∨ n = 12 ∨ n = 13 ∨ n = 14 ∨ n = 15 ∨ n = 16 := by omega
  rcases this with rfl | rfl | rfl | rfl | rfl | rfl | rfl | rfl | rfl | rfl | rfl | rfl | rfl | rfl | rfl | rfl <;> decide +kernel
theorem sizeB_out {n : Int} (h : n < 1 ∨ 16 < n) : sizeB n = false := by
  unfold sizeB
  simp only [Bool.or_eq_false_iff, beq_eq_false_iff_ne]
  omega
set_option maxHeartbeats 400000 in
theorem Size_any (n : Int) (w : World) : Calls Try.prog 58 #[.int .i64 n] w fun e w' => e = .returned (.bool (sizeB n)) ∧ w = w' := by
  by_cases h1 : n < 1
  · rw [sizeB_out (.inl h1)]
    go_enter Try.func58, Try.ntmps58
    go_wp2
    go_ret
    exact ⟨rfl, rfl⟩
  · by_cases h2 : 16 < n
    · rw [sizeB_out (.inr h2)]
      go_enter Try.func58, Try.ntmps58
      go_wp2
      go_ret
      exact ⟨rfl, rfl⟩
    · have h := sizeB_bits (n := n) (by omega) (by omega)
      rw [← h]
      clear h
      go_enter Try.func58, Try.ntmps58
      go_wp2
      go_ret
      exact ⟨rfl, rfl⟩
set_option maxHeartbeats 400000 in
theorem rSize_any (n : Int) (w : World) : Calls Try.prog 59 #[.int .i64 n] w fun e w' => e = .returned (.bool (sizeB n)) ∧ w = w' := by
  unfold sizeB
  cases h1 : (n == 1)
  · cases h2 : (n == 2)
    · cases h3 : (n == 4)
      · cases h4 : (n == 8)
        all_goals
          go_enter Try.func59, Try.ntmps59
          go_wp2
          go_ret
          exact ⟨rfl, rfl⟩
      · go_enter Try.func59, Try.ntmps59
        go_wp2
        go_ret
        exact ⟨rfl, rfl⟩
    · go_enter Try.func59, Try.ntmps59
      go_wp2
      go_ret
      exact ⟨rfl, rfl⟩
  · go_enter Try.func59, Try.ntmps59
    go_wp2
    go_ret
    exact ⟨rfl, rfl⟩
def okB (s : Int × Int) : Bool := sizeB s.1 && powB s.2
def slotsE (l : List (Int × Int)) : Int := if 512 < l.length then 3 else if l.all okB then 0 else 5
set_option maxHeartbeats 400000 in
theorem bad_any (a b : Int) (w : World) : Calls Try.prog 57 #[.agg #[.int .i64 a, .int .i64 b]] w fun e w' => e = .returned (.bool (!okB (a, b))) ∧ Below w.heap.size w w' := by
  unfold okB
  cases h1 : sizeB a
  · go_enter Try.func57, Try.ntmps57
    go_wp2_with (first | (go_at_call 58; refine (Size_any _ _).mono ?_; rintro e w' ⟨rfl, rfl⟩))
    go_ret
    exact ⟨by simp, (Below.refl _ _).alloc (Nat.le_refl _) _⟩
  · cases h2 : powB b
    all_goals
      go_enter Try.func57, Try.ntmps57
      go_wp2_with (first | (go_at_call 58; refine (Size_any _ _).mono ?_; rintro e w' ⟨rfl, rfl⟩) | (go_at_call 27; refine (power_any _ _).mono ?_; rintro e w' ⟨rfl, rfl⟩))
      go_ret
      exact ⟨by simp, (Below.refl _ _).alloc (Nat.le_refl _) _⟩
theorem slotCells_get (l : List (Int × Int)) : ∀ (k : Nat) (hk : k < l.length), (slotCells l)[k * 2]? = some (.int .i64 l[k].1) ∧ (slotCells l)[k * 2 + 1]? = some (.int .i64 l[k].2) := by
  induction l with
  | nil => intro k hk; simp at hk
  | cons a l ih =>
    intro k hk
    cases k with
    | zero => simp [slotCells]
    | succ k =>
      have h := ih k (by simpa using hk)
      have e1 : (k + 1) * 2 = k * 2 + 2 := by omega
      simp only [slotCells, List.flatMap_cons, List.getElem_cons_succ] at h ⊢
      rw [e1]
      exact ⟨by simpa using h.1, by simpa [Nat.add_assoc] using h.2⟩
theorem Holds.atSlot {w : World} {S : Nat → Prop} {A : Option Addr} {n c : Nat} {l : List (Int × Int)} (h : Holds w S 2 (.slice A n c) n (slotCells l)) {k : Nat} (hk : k < l.length) :
    ∃ b o, A = some ⟨b, o, none⟩ ∧ S b ∧ w.cell? ⟨b, o + k * 2, none⟩ = some (.int .i64 l[k].1) ∧ w.cell? ⟨b, o + k * 2 + 1, none⟩ = some (.int .i64 l[k].2) := by
  have hn : n = l.length := by have := h.len; rw [slotCells_length] at this; omega
  obtain ⟨b, o, h1, h2, h3⟩ := h.addr (show k < n by omega)
  obtain ⟨u, h5, h6⟩ := h3 0 (by omega)
  obtain ⟨u', h5', h6'⟩ := h3 1 (by omega)
  obtain ⟨g1, g2⟩ := slotCells_get l k hk
  simp only [Nat.add_zero] at h5 h6
  rw [g1] at h5
  rw [g2] at h5'
  injection h5 with h5
  injection h5' with h5'
  subst h5
  subst h5'
  exact ⟨b, o, h1, h2, h6, h6'⟩
set_option maxHeartbeats 1000000 in
theorem IndexFunc_slots (v : Value) (l : List (Int × Int)) (S : Nat → Prop) (w : World) (hv : Holds w S 2 v l.length (slotCells l)) (hS : ∀ b, S b → b < w.heap.size) :
    Calls Try.prog 61 #[v, .func (.func 57) #[] #[]] w fun e w' => (∃ i : Int, e = .returned (.int .i64 i) ∧ (decide (0 ≤ i) = !l.all okB)) ∧ Below w.heap.size w w' := by
  have hv0 := hv
  obtain ⟨A, c, rfl, hc1, hc2, _, _⟩ := hv
  have HV := hide hv0
  clear hv0
  unfold maxLen at hc2
  go_enter Try.func61, Try.ntmps61
  go_wp2
  go_loopw [8] (fun i wr => ∃ k : Nat, k ≤ l.length ∧ i = .int .i64 k ∧ Hid (Below w.heap.size w wr) ∧ Hid (∀ (j : Nat) (hj : j < l.length), j < k → okB l[j] = true)) (fun i _ => l.length - (intOf i).toNat)
  case atStart => exact ⟨0, by omega, rfl, Below.refl _ _, hide (fun j _ h => by omega)⟩
  case round =>
    obtain ⟨k, hk, rfl, HB, HO⟩ := hrel
    by_cases hlt : k < l.length
    · have hd : (k : Int) < (l.length : Int) := by omega
      have hvr := HV.out.below HB.out hS
      obtain ⟨b, o, rfl, hSb, hx0, hx1⟩ := hvr.atSlot hlt
      clear hvr
      cases hok : okB l[k]
      · have hr : (!okB (l[k].1, l[k].2)) = true := by simp [hok]
        have HR := hide hr
        clear hr
        go_wp2_with (go_at_call 57; refine (bad_any _ _ _).mono ?_; rw [HR.out]; rintro e w2 ⟨rfl, hb2⟩)
        go_ret
        refine ⟨⟨k, rfl, ?_⟩, HB.out.trans (hb2.mono HB.out.size)⟩
        have : l.all okB = false := by
          rw [List.all_eq_false]
          exact ⟨l[k], List.getElem_mem hlt, by simp [hok]⟩
        rw [this]
        simp
      · have hr : (!okB (l[k].1, l[k].2)) = false := by simp [hok]
        have HR := hide hr
        have HOK := hide hok
        clear hr hok
        go_wp2_with (go_at_call 57; refine (bad_any _ _ _).mono ?_; rw [HR.out]; rintro e w2 ⟨rfl, hb2⟩)
        go_roundw
        case rel =>
          refine ⟨k + 1, by omega, by go_num, hide (HB.out.trans (hb2.mono HB.out.size)), hide (fun j hj hjk => ?_)⟩
          by_cases hjk' : j = k
          · subst hjk'; exact HOK.out
          · exact HO.out j hj (by omega)
        case measure => simp only [intOf]; omega
    · go_wp2
      go_ret
      refine ⟨⟨-1, rfl, ?_⟩, HB.out⟩
      have : l.all okB = true := by
        rw [List.all_eq_true]
        intro s hs
        obtain ⟨j, hj, rfl⟩ := List.mem_iff_getElem.1 hs
        exact HO.out j hj (by omega)
      rw [this]
      rfl
end Go.Proofs.Ytgbmhimllafljaa
