/- The alignment of a list of slots. -/
import Derived.Test.YtgbmhimllafljaaSlotsE
namespace Go.Proofs.Ytgbmhimllafljaa
open Go.RowKit
def maxA (m : Int) (l : List (Int × Int)) : Int := l.foldl (fun m s => max m s.2) m
def alignL (l : List (Int × Int)) : Int := if slotsE l = 0 then maxA 16 l else 16
theorem maxA_step (l : List (Int × Int)) (k : Nat) (h : k < l.length) : (if maxA 16 (l.take k) < l[k].2 then l[k].2 else maxA 16 (l.take k)) = maxA 16 (l.take (k + 1)) := by
  have : maxA 16 (l.take (k + 1)) = max (maxA 16 (l.take k)) l[k].2 := by
    unfold maxA
    rw [List.take_succ_eq_append_getElem h, List.foldl_append]
    rfl
  rw [this]
  split <;> omega
theorem maxA_all (l : List (Int × Int)) {k : Nat} (hk : k ≤ l.length) (h : ¬ k < l.length) : maxA 16 (l.take k) = maxA 16 l := by rw [List.take_of_length_le (by omega)]
set_option maxHeartbeats 400000 in
theorem rAlign_any (v : Value) (l : List (Int × Int)) (S : Nat → Prop) (w : World) (hv : Holds w S 2 v l.length (slotCells l)) :
    Calls Try.prog 42 #[v] w fun e w' => e = .returned (.int .i64 (alignL l)) ∧ w = w' := by
  have HV := hide hv
  have HR := hide (rSlots_any v l S w hv)
  obtain ⟨A, c, rfl, hc1, hc2, _, _⟩ := hv
  unfold maxLen at hc2
  by_cases he : slotsE l = 0
  · have hal : alignL l = maxA 16 l := if_pos he
    have hd : ((slotsE l == 0) = true) := by simp [he]
    rw [hal]; clear hal he
    go_enter Try.func42, Try.ntmps42
    go_wp2_with (go_at_call 40; refine HR.out.mono ?_; rintro e w' ⟨rfl, rfl⟩)
    go_loop [3, 4] (fun m i => ∃ k : Nat, k ≤ l.length ∧ i = .int .i64 k ∧ m = .int .i64 (maxA 16 (l.take k))) (fun _ i => l.length - (intOf i).toNat)
    case atStart => exact ⟨0, by omega, rfl, rfl⟩
    case round =>
      obtain ⟨k, hk, rfl, rfl⟩ := hrel
      by_cases hlt : k < l.length
      · have hd : (k : Int) < (l.length : Int) := by omega
        obtain ⟨b, o, rfl, hSb, hx0, hx1⟩ := HV.out.atSlot hlt
        go_wp2
        refine ⟨⟨k + 1, by omega, by go_num, by rw [maxA_step l k hlt]⟩, ?_⟩
        simp only [intOf]; omega
      · go_wp2
        go_ret
        exact ⟨by rw [maxA_all l hk hlt]; rfl, rfl⟩
  · have hal : alignL l = 16 := if_neg he
    have hd : ((slotsE l == 0) = false) := by simp [he]
    rw [hal]; clear hal he
    go_enter Try.func42, Try.ntmps42
    go_wp2_with (go_at_call 40; refine HR.out.mono ?_; rintro e w' ⟨rfl, rfl⟩)
    go_ret
    exact ⟨rfl, rfl⟩
set_option maxHeartbeats 400000 in
theorem Align_any (v : Value) (l : List (Int × Int)) (S : Nat → Prop) (w : World) (hv : Holds w S 2 v l.length (slotCells l)) (hS : ∀ b, S b → b < w.heap.size) :
    Calls Try.prog 41 #[v] w fun e w' => e = .returned (.int .i64 (alignL l)) ∧ Below w.heap.size w w' := by
  have HV := hide (And.intro hv hS)
  have HR := hide (eSlots_any v l S w hv hS)
  obtain ⟨A, c, rfl, hc1, hc2, _, _⟩ := hv
  unfold maxLen at hc2
  clear hS
  by_cases he : slotsE l = 0
  · have hal : alignL l = maxA 16 l := if_pos he
    have hd : ((slotsE l == 0) = true) := by simp [he]
    rw [hal]; clear hal he
    go_enter Try.func41, Try.ntmps41
    go_wp2_with (go_at_call 39; refine HR.out.mono ?_; rintro e w1 ⟨rfl, hb⟩)
    have HB := hide hb
    clear hb
    go_loopw [3, 11] (fun m i wr => ∃ k : Nat, k ≤ l.length ∧ i = .int .i64 k ∧ m = .int .i64 (maxA 16 (l.take k)) ∧ Hid (Below w.heap.size w wr)) (fun _ i _ => l.length - (intOf i).toNat)
    case atStart => exact ⟨0, by omega, rfl, rfl, HB⟩
    case round =>
      clear HB
      obtain ⟨k, hk, rfl, rfl, HB⟩ := hrel
      by_cases hlt : k < l.length
      · have hd : (k : Int) < (l.length : Int) := by omega
        obtain ⟨b, o, rfl, hSb, hx0, hx1⟩ := (HV.out.1.below HB.out HV.out.2).atSlot hlt
        go_wp2
        refine ⟨⟨k + 1, by omega, by go_num, by rw [maxA_step l k hlt], ?_⟩, ?_⟩
        · exact hide (Below.alloc HB.out (Below.size HB.out) _)
        · simp only [intOf]; omega
      · go_wp2
        go_ret
        exact ⟨by rw [maxA_all l hk hlt]; rfl, HB.out⟩
  · have hal : alignL l = 16 := if_neg he
    have hd : ((slotsE l == 0) = false) := by simp [he]
    rw [hal]; clear hal he
    go_enter Try.func41, Try.ntmps41
    go_wp2_with (go_at_call 39; refine HR.out.mono ?_; rintro e w1 ⟨rfl, hb⟩)
    go_ret
    exact ⟨rfl, hb⟩
end Go.Proofs.Ytgbmhimllafljaa
