/- The error of a list of slots. -/
import Derived.Test.YtgbmhimllafljaaSlotsOk
namespace Go.Proofs.Ytgbmhimllafljaa
open Go.RowKit
set_option maxHeartbeats 400000 in
theorem ContainsFunc_slots (v : Value) (l : List (Int × Int)) (S : Nat → Prop) (w : World) (hv : Holds w S 2 v l.length (slotCells l)) (hS : ∀ b, S b → b < w.heap.size) :
    Calls Try.prog 56 #[v, .func (.func 57) #[] #[]] w fun e w' => e = .returned (.bool (!l.all okB)) ∧ Below w.heap.size w w' := by
  have HI := hide (IndexFunc_slots v l S w hv hS)
  clear hv hS
  go_enter Try.func56, Try.ntmps56
  go_wp2_with fail
  refine HI.out.mono ?_
  rintro e w1 ⟨⟨i, rfl, hi⟩, hb⟩
  have HI2 := hide hi
  clear hi
  go_wp2
  go_ret
  exact ⟨by rw [← HI2.out]; rfl, hb⟩
theorem slotsE_limit {l : List (Int × Int)} (h : 512 < l.length) : slotsE l = 3 := if_pos h
theorem slotsE_ok {l : List (Int × Int)} (h : ¬ 512 < l.length) (h2 : l.all okB = true) : slotsE l = 0 := by unfold slotsE; rw [if_neg h, if_pos h2]
theorem slotsE_bad {l : List (Int × Int)} (h : ¬ 512 < l.length) (h2 : l.all okB = false) : slotsE l = 5 := by unfold slotsE; rw [if_neg h, if_neg (by simp [h2])]
set_option maxHeartbeats 400000 in
theorem eSlots_any (v : Value) (l : List (Int × Int)) (S : Nat → Prop) (w : World) (hv : Holds w S 2 v l.length (slotCells l)) (hS : ∀ b, S b → b < w.heap.size) :
    Calls Try.prog 39 #[v] w fun e w' => e = .returned (.int .i64 (slotsE l)) ∧ Below w.heap.size w w' := by
  have HC := hide (ContainsFunc_slots v l S w hv hS)
  obtain ⟨A, c, rfl, hc1, hc2, _, _⟩ := hv
  unfold maxLen at hc2
  by_cases hlen : 512 < l.length
  · rw [slotsE_limit hlen]
    have hd : (512 : Int) < (l.length : Int) := by omega
    go_enter Try.func39, Try.ntmps39
    go_wp2
    go_ret
    exact ⟨rfl, Below.refl _ _⟩
  · have hd : ¬ (512 : Int) < (l.length : Int) := by omega
    cases hall : l.all okB
    · rw [slotsE_bad hlen hall]
      have HH := hide hall
      clear hall hS
      go_enter Try.func39, Try.ntmps39
      go_wp2_with (go_at_call 56; refine HC.out.mono ?_; rw [HH.out]; rintro e w1 ⟨rfl, hb⟩)
      go_ret
      exact ⟨rfl, hb⟩
    · rw [slotsE_ok hlen hall]
      have HH := hide hall
      clear hall hS
      go_enter Try.func39, Try.ntmps39
      go_wp2_with (go_at_call 56; refine HC.out.mono ?_; rw [HH.out]; rintro e w1 ⟨rfl, hb⟩)
      go_ret
      exact ⟨rfl, hb⟩
set_option maxHeartbeats 400000 in
theorem rSlots_any (v : Value) (l : List (Int × Int)) (S : Nat → Prop) (w : World) (hv : Holds w S 2 v l.length (slotCells l)) :
    Calls Try.prog 40 #[v] w fun e w' => e = .returned (.int .i64 (slotsE l)) ∧ w = w' := by
  have hv0 := hv
  obtain ⟨A, c, rfl, hc1, hc2, _, _⟩ := hv
  have HV := hide hv0
  clear hv0
  unfold maxLen at hc2
  by_cases hlen : 512 < l.length
  · rw [slotsE_limit hlen]
    have hd : (512 : Int) < (l.length : Int) := by omega
    go_enter Try.func40, Try.ntmps40
    go_wp2
    go_ret
    exact ⟨rfl, rfl⟩
  · have hdl : ¬ (512 : Int) < (l.length : Int) := by omega
    go_enter Try.func40, Try.ntmps40
    go_wp2
    go_loop [3] (fun i => ∃ k : Nat, k ≤ l.length ∧ i = .int .i64 k ∧ Hid (∀ (j : Nat) (hj : j < l.length), j < k → okB l[j] = true)) (fun i => l.length - (intOf i).toNat)
    case atStart => exact ⟨0, by omega, rfl, hide (fun j _ h => by omega)⟩
    case round =>
      obtain ⟨k, hk, rfl, HO⟩ := hrel
      by_cases hlt : k < l.length
      · have hd : (k : Int) < (l.length : Int) := by omega
        obtain ⟨b, o, rfl, hSb, hx0, hx1⟩ := HV.out.atSlot hlt
        have bad : okB l[k] = false → slotsE l = 5 := fun hok => slotsE_bad hlen (by rw [List.all_eq_false]; exact ⟨l[k], List.getElem_mem hlt, by simp [hok]⟩)
        have HBAD := hide bad
        clear bad
        cases h1 : sizeB l[k].1
        · have HE := hide (HBAD.out (by simp [okB, h1]))
          go_wp2_with (go_at_call 59; refine (rSize_any _ _).mono ?_; rintro e w' ⟨rfl, rfl⟩)
          go_ret
          exact ⟨by rw [HE.out]; rfl, rfl⟩
        · cases h2 : powB l[k].2
          · have HE := hide (HBAD.out (by simp [okB, h2]))
            go_wp2_with (first | (go_at_call 59; refine (rSize_any _ _).mono ?_; rintro e w' ⟨rfl, rfl⟩) | (go_at_call 28; refine (rPower_any _ _).mono ?_; rintro e w' ⟨rfl, rfl⟩))
            go_ret
            exact ⟨by rw [HE.out]; rfl, rfl⟩
          · have HE : Hid (okB l[k] = true) := hide (by simp [okB, h1, h2])
            go_wp2_with (first | (go_at_call 59; refine (rSize_any _ _).mono ?_; rintro e w' ⟨rfl, rfl⟩) | (go_at_call 28; refine (rPower_any _ _).mono ?_; rintro e w' ⟨rfl, rfl⟩))
            go_round
            case rel =>
              refine ⟨k + 1, by omega, by go_num, hide (fun j hj hjk => ?_)⟩
              by_cases hjk' : j = k
              · subst hjk'; exact HE.out
              · exact HO.out j hj (by omega)
            case measure => simp only [intOf]; omega
      · go_wp2
        go_ret
        refine ⟨?_, rfl⟩
        rw [slotsE_ok hlen ?_]
        · rfl
        · rw [List.all_eq_true]
          intro s hs
          obtain ⟨j, hj, rfl⟩ := List.mem_iff_getElem.1 hs
          exact HO.out j hj (by omega)
end Go.Proofs.Ytgbmhimllafljaa
